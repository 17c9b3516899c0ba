import Derived.Test.YtfknmdelgepbjaaGreatDoorZTab
import Derived.Test.YtfknmdelgepbjaaGreatDoorZMir
import Derived.Test.YtfknmdelgepbjaaGreatDoorConQ
import Derived.Test.YtfknmdelgepbjaaGreatDoorConA6
import Derived.Test.YtfknmdelgepbjaaGreatDoorConC4
import Derived.Lib.Join
import Derived.Eval
import Derived.Test.YtfknmdelgepbjaaGreatDoorZShelf
set_option linter.all false
set_option autoImplicit true
set_option maxRecDepth 10000
set_option maxHeartbeats 20000000
namespace Go.Proofs.YtfknmdelgepbjaaGreatDoor
open Go Go.Sp Tryz
theorem rF.c (h:rF.f a0=some r):Tr prog 84 [vI a0] [] (γ:=OV) (fun _=>True) (fun g=>kR [eq g.1,vI r.2]) (fun g=>[DI jB.O g r.1]):=by
 refine tf func84 h fun R0 F H=>?_
 refine so<|WP.seq<|wr 6 0<|gp 3 ?_
 cases c1:decide (a0<1)
 rotate_left
 ·
  have H:=H.ct c1
  refine go 3<|WP.cond Q (fun _=>?_) nofun
  refine so<|wg (nN (O:=jB.O)) fun _ _=>?_
  cases H.out; exact et iV 1 [0] 0
 have H:=H.cf c1
 refine go 3<|ce H ?_ ?_ <;> intro H
 ·
  refine so<|wg (nN (O:=jB.O)) fun _ _=>?_
  cases H.out; exact et iV 1 [0] 0
 refine WP.skip<|wr 5 4<|go 1<|Dv.lx (qs:=[vI a0,dY,vI 0]) (css:=[[vI a0]]) Q T Ii pl247 z247 Q ⟨(cells_one (aj Q)),T⟩ Q Q<|Dv.box Q T Q cA nofun fun b4=>go 2<|wg (eX ai.K none) fun _ _=>?_
 refine wg (jB.shut (p:=(⟨.pointer (some ⟨b4,0,none⟩),Q⟩:OV)) (m:=(⟨a0,([]:List ai),0⟩:jB)) (b4,l6) Q (pm 2 [1,0])) fun _ _=>?_
 cases H.out; exact et (⟨.pointer (some ⟨b4,0,none⟩),Q⟩:OV) 1 [0] 0
theorem nO.c (h:nO.f=some r):Tr prog 85 [] [] (γ:=OV) (fun _=>True) (fun g=>eq g.1) (fun g=>[jT.O g r]):=by
 refine tf func85 h fun R0 F H=>?_
 refine so<|wr 4 5<|Dv.KG bz.kv (fun x:Pos=>agg (Pos.enc x)) Q T nofun (fun v5=>?_)
 refine Dv.lx (qs:=[eq v5.1]) (css:=[[eq v5.1]]) Q T U250 pl250 z250 Q ⟨(cells_one bQ),T⟩ Q Q<|Dv.box Q T Q cA nofun fun b6=>go 1<|wg (jT.shut (p:=(⟨.pointer (some ⟨b6,0,none⟩),Q⟩:OV)) (m:=(⟨([]:List (bz×Pos))⟩:jT)) (b6,v5) Q (pm 2 [0,1])) fun _ _=>?_
 cases H.out; exact et (⟨.pointer (some ⟨b6,0,none⟩),Q⟩:OV) 1 [0] 0
theorem oC.c (h:oC.f a0=some r):Tr prog 30 [vI a0] [] (γ:=OV) (fun _=>True) (fun g=>kR [eq g.1,vI r.2]) (fun g=>[DI gW.O g r.1]):=by
 refine tf func30 h fun R0 F H=>?_
 refine so<|wr 7 2<|go 1<|el H fun t7 h8 H=>cx 0 [] (cL 84) (rF.c h8) nofun fun g9 _=>?_
 refine go 1<|eD Q T Q Q<|eD Q T Q Q<|go 2<|WP.seq<|so<|ce H ?_ ?_ <;> intro H
 ·
  refine so<|wg (nN (O:=gW.O)) fun _ _=>?_
  cases H.out; exact et iV 2 [1,0] 1
 refine WP.skip<|wr 6 9<|el H fun t11 h12 H=>cx 1 [0] (cL 85) (nO.c h12) nofun fun g13 _=>?_
 refine go 1<|gr H fun g14 H=>vg (qW 1 Q (isN g14)) fun _ _=>?_
 refine Dv.lx (qs:=[eq g13.1,eq g9.1]) (css:=[[eq g13.1],[eq g9.1]]) Q T Jv pl177 z177 Q ⟨(cells_one bQ),⟨(cells_one bQ),T⟩⟩ Q Q<|Dv.box Q T Q cA nofun fun b15=>go 2<|wg (gW.shut (p:=(⟨.pointer (some ⟨b15,0,none⟩),Q⟩:OV)) (m:=(⟨t11,t7.1.getD default⟩:gW)) (b15,g13,g9) Q (pm 3 [0,2,1])) fun _ _=>?_
 cases H.out; exact et (⟨.pointer (some ⟨b15,0,none⟩),Q⟩:OV) 1 [0] 0
theorem qU.c {b off:Nat} {bT:TypeId} {qs:Cs} {m:Int} (h0:off<qs.length):Tr prog 141 [eq (.pointer (some ⟨b,off,none⟩)),vI m] [ay b bT qs] (γ:=Unit) (fun _=>True) (fun _=>kR []) (fun _=>[ay b bT (qs.set off (vI m))]):=by
 exact Tr.body func141 (c:=_) Q ntmps141 (Nat.le_of_ble_eq_true Q) fun R0 F=>WP.qH [(0,false),(1,false),(2,false),(3,false),(4,true)] kr<|go 4<|Dv.IY (jj:=0) (qs:=qs) Q T Q (Gi h0 func210 kr Q xf210 xg210) Q nofun<|.fin<|re Q () 1 [0] 0 .nil
theorem oe.c (h:oe.f a0 a1=some r):Tr prog 86 [vI a0,vI a1] [] (γ:=OV) (fun _=>True) (fun g=>kR [eq g.1,vI r.2]) (fun g=>[DI kJ.O g r.1]):=by
 refine tf func86 h fun R0 F H=>?_
 refine so<|WP.seq<|wr 15 0<|gp 3 ?_
 cases c16:decide (a1<1)
 rotate_left
 ·
  have H:=H.ct c16
  refine go 12<|WP.cond Q (fun _=>?_) nofun
  refine so<|wg (nN (O:=kJ.O)) fun _ _=>?_
  cases H.out; exact et iV 1 [0] 0
 have H:=H.cf c16
 refine gp 4 ?_
 cases c18:decide (1099511627776<a1)
 rotate_left
 ·
  have H:=H.ct c18
  refine go 8<|WP.cond Q (fun _=>?_) nofun
  refine so<|wg (nN (O:=kJ.O)) fun _ _=>?_
  cases H.out; exact et iV 1 [0] 0
 have H:=H.cf c18
 refine gp 4 ?_
 cases c20:decide (a0<0)
 rotate_left
 ·
  have H:=H.ct c20
  refine go 4<|WP.cond Q (fun _=>?_) nofun
  refine so<|wg (nN (O:=kJ.O)) fun _ _=>?_
  cases H.out; exact et iV 1 [0] 0
 have H:=H.cf c20
 refine go 4<|ce H ?_ ?_ <;> intro H
 ·
  refine so<|wg (nN (O:=kJ.O)) fun _ _=>?_
  cases H.out; exact et iV 1 [0] 0
 refine WP.skip<|wr 4 4<|go 1<|Dv.lx (qs:=[vI 0,vI a1]) (css:=[[vI a1]]) Q T JB pl257 z257 Q ⟨(cells_one (aj Q)),T⟩ Q Q<|Dv.box Q T Q cA nofun fun b23=>go 1<|wr 5 16<|go 4<|cx 1 [0] (cL 141) (qU.c (b:=b23) (off:=0) (bT:=257) (qs:=[vI 0,vI a1]) (m:=a0) (Nat.le_of_ble_eq_true Q)) nofun fun _ _=>?_
 refine .fin<|so<|wg (kJ.shut (p:=(⟨.pointer (some ⟨b23,0,none⟩),Q⟩:OV)) (m:=(⟨(⟨a0⟩:Bc),a1⟩:kJ)) b23 Q (pm 1 [0])) fun _ _=>?_
 cases H.out; exact et (⟨.pointer (some ⟨b23,0,none⟩),Q⟩:OV) 1 [0] 0
theorem nf.c (h:nf.f a0 a1=some r):Tr prog 31 [vI a0,vI a1] [] (γ:=OV) (fun _=>True) (fun g=>kR [eq g.1,vI r.2]) (fun g=>[DI bK.O g r.1]):=by
 refine tf func31 h fun R0 F H=>?_
 refine so<|wr 8 4<|go 2<|el H fun t24 h25 H=>cx 0 [] (cL 86) (oe.c h25) nofun fun g26 _=>?_
 refine go 1<|eD Q T Q Q<|eD Q T Q Q<|go 2<|WP.seq<|so<|ce H ?_ ?_ <;> intro H
 ·
  refine so<|wg (nN (O:=bK.O)) fun _ _=>?_
  cases H.out; exact et iV 2 [1,0] 1
 refine WP.skip<|wr 6 10<|go 1<|Dv.KG Value.string (fun x:Int=>vI x) Q T nofun (fun v28=>?_)
 refine gr H fun g29 H=>vg (qW 1 Q (isN g29)) fun _ _=>?_
 refine Dv.lx (qs:=[eq g26.1,dY,eq v28.1]) (css:=[[eq g26.1],[eq v28.1]]) Q T GH pl183 z183 Q ⟨(cells_one bQ),⟨(cells_one bQ),T⟩⟩ Q Q<|Dv.box Q T Q cA nofun fun b30=>go 2<|wg (eX aC none) fun _ _=>?_
 refine wg (bK.shut (p:=(⟨.pointer (some ⟨b30,0,none⟩),Q⟩:OV)) (m:=(⟨t24.1.getD default,([]:List BA),([]:List (BA×Int))⟩:bK)) (b30,g26,l6,v28) Q (pm 4 [1,2,0,3])) fun _ _=>?_
 cases H.out; exact et (⟨.pointer (some ⟨b30,0,none⟩),Q⟩:OV) 1 [0] 0
theorem rh.c (h:rh.f=some r):Tr prog 32 [] [] (γ:=OV) (fun _=>True) (fun g=>eq g.1) (fun g=>[aH.O g r]):=by
 refine tf func32 h fun R0 F H=>?_
 refine so<|wr 4 5<|Dv.KG Value.string (fun p:OV=>eq p.1) Q T nofun (fun v31=>?_)
 refine vg (B9 bf.O) fun _ _=>?_
 refine Dv.lx (qs:=[eq v31.1]) (css:=[[eq v31.1]]) Q T Ke pl186 z186 Q ⟨(cells_one bQ),T⟩ Q Q<|Dv.box Q T Q cA nofun fun b32=>go 1<|wg (aH.shut (p:=(⟨.pointer (some ⟨b32,0,none⟩),Q⟩:OV)) (m:=(⟨([]:List (BA×bf))⟩:aH)) (b32,v31) Q (pm 2 [0,1])) fun _ _=>?_
 cases H.out; exact et (⟨.pointer (some ⟨b32,0,none⟩),Q⟩:OV) 1 [0] 0
theorem oi.c (h:oi.f=some r):Tr prog 87 [] [] (γ:=OV) (fun _=>True) (fun g=>eq g.1) (fun g=>[aM.O g r]):=by
 refine tf func87 h fun R0 F H=>?_
 refine so<|wr 4 5<|Dv.KG Value.string (fun x:Int=>vI x) Q T nofun (fun v33=>?_)
 refine Dv.lx (qs:=[dY,eq v33.1]) (css:=[[eq v33.1]]) Q T JA pl261 z261 Q ⟨(cells_one bQ),T⟩ Q Q<|Dv.box Q T Q cA nofun fun b34=>go 1<|wg (eX db.K none) fun _ _=>?_
 refine wg (aM.shut (p:=(⟨.pointer (some ⟨b34,0,none⟩),Q⟩:OV)) (m:=(⟨([]:List db),([]:List (BA×Int))⟩:aM)) (b34,l6,v33) Q (pm 3 [1,0,2])) fun _ _=>?_
 cases H.out; exact et (⟨.pointer (some ⟨b34,0,none⟩),Q⟩:OV) 1 [0] 0
theorem nG.c (h:nG.f=some r):Tr prog 33 [] [] (γ:=OV) (fun _=>True) (fun g=>eq g.1) (fun g=>[bH.O g r]):=by
 refine tf func33 h fun R0 F H=>?_
 refine so<|wr 4 5<|el H fun t35 h36 H=>cx 0 [] (cL 87) (oi.c h36) nofun fun g37 _=>?_
 refine Dv.lx (qs:=[dY,eq g37.1]) (css:=[[eq g37.1]]) Q T JO pl190 z190 Q ⟨(cells_one bQ),T⟩ Q Q<|Dv.box Q T Q cA nofun fun b38=>go 1<|wg (eX ai.K none) fun _ _=>?_
 refine wg (bH.shut (p:=(⟨.pointer (some ⟨b38,0,none⟩),Q⟩:OV)) (m:=(⟨([]:List ai),t35⟩:bH)) (b38,l6,g37) Q (pm 3 [1,0,2])) fun _ _=>?_
 cases H.out; exact et (⟨.pointer (some ⟨b38,0,none⟩),Q⟩:OV) 1 [0] 0
theorem ly.c (h:ly.f=some r):Tr prog 34 [] [] (γ:=OV) (fun _=>True) (fun g=>eq g.1) (fun g=>[bM.O g r]):=by
 refine tf func34 h fun R0 F H=>?_
 refine so<|wr 4 5<|el H fun t39 h40 H=>cx 0 [] (cL 87) (oi.c h40) nofun fun g41 _=>?_
 refine Dv.lx (qs:=[dY,eq g41.1]) (css:=[[eq g41.1]]) Q T JQ pl192 z192 Q ⟨(cells_one bQ),T⟩ Q Q<|Dv.box Q T Q cA nofun fun b42=>go 1<|wg (eX ai.K none) fun _ _=>?_
 refine wg (bM.shut (p:=(⟨.pointer (some ⟨b42,0,none⟩),Q⟩:OV)) (m:=(⟨([]:List ai),t39⟩:bM)) (b42,l6,g41) Q (pm 3 [1,0,2])) fun _ _=>?_
 cases H.out; exact et (⟨.pointer (some ⟨b42,0,none⟩),Q⟩:OV) 1 [0] 0
theorem tH.c (h:tH.f a0=some r):Tr prog 142 [vS a0] [] (γ:=OV) (fun _=>True) (fun g=>eq g.1) (fun g=>[bf.O g r]):=by
 refine tf func142 h fun R0 F H=>?_
 refine so<|wr 5 10<|go 1<|Dv.KG Value.string (fun p:OV=>eq p.1) Q T nofun (fun v43=>?_)
 refine vg (B9 aT.O) fun _ _=>?_
 refine Dv.lx (qs:=[vS a0,eq v43.1]) (css:=[[vS a0],[eq v43.1]]) Q T Jq pl265 z265 Q ⟨(cells_one (aj Q)),⟨(cells_one bQ),T⟩⟩ Q Q<|Dv.box Q T Q cA nofun fun b44=>go 1<|wg (bf.shut (p:=(⟨.pointer (some ⟨b44,0,none⟩),Q⟩:OV)) (m:=(⟨a0,([]:List (BA×aT))⟩:bf)) (b44,v43) Q (pm 2 [0,1])) fun _ _=>?_
 cases H.out; exact et (⟨.pointer (some ⟨b44,0,none⟩),Q⟩:OV) 1 [0] 0
theorem aO.r {a0:aH} {a1:BA} {r:bf} (h:aO.f a0 a1=some r):∀ x,mget a0.bx a1=some x→x=r:=fun x e=>by
 unfold aO.f at h; rw [e] at h; exact Option.some.inj h
theorem aO.c {b0_:Nat} {v0_0:OV} {r:bf} (h:aO.f a0 a1=some r):Tr prog 88 [bO b0_,vS a1] [ay b0_ 186 [eq v0_0.1],kh Value.string bf.O v0_0.1 a0.bx] (γ:=OV) (fun _=>True) (fun g=>eq g.1) (fun g=>[ay b0_ 186 [eq v0_0.1],I4 Value.string bf.O v0_0.1 a0.bx a1 g,bf.O g r]):=by
 refine tf func88 h fun R0 F H=>?_
 refine WP.seq<|WP.qH [(0,false)] kr<|go 1<|WP.seq<|WP.seq<|WP.qH [(0,false),(1,false),(2,false),(3,false),(4,false),(5,false),(6,false)] kr<|go 2<|Dv.fab Q T Q Ke Q CW Ge dc<|Dv.ldb Q T Q CW Q (ab 0 Q) Q<|go 1<|vg (mq 1 Q) fun z1 h1=>?_
 refine Dv.Ep iV Q T Q (ab 0 Q) Q CW (dR U9) z193 (fun _=>Q)<|go 1<|WP.seq<|WP.qH [(0,false),(1,false)] kr<|go 1<|Dv.pm1 (BC h1 Q) Q T Q Q U193<|.fin<|WP.cond Q (fun c1=>?_) (fun c1=>?_)
 ·
  have e1:(mget a0.bx a1).isSome=true:=by cases e:mget a0.bx a1 with | none=>rw [e] at c1; cases c1 | some _=>rfl
  have H:=H.ct e1
  obtain rfl:=aZ.out H
  refine WP.seq<|WP.qH [(0,false),(1,false)] kr<|go 2<|wg (Gk h1 Q e1 (pm 3 [0,1,2])) fun _ _=>?_
  exact et ((mget (cY a0.bx z1) a1).getD iV) 3 [2,0,1] 0
 have e1:(mget a0.bx a1).isSome=false:=by cases e:mget a0.bx a1 with | none=>rfl | some _=>rw [e] at c1; cases c1
 have H:=H.cf e1
 refine WP.skip<|WP.seq<|WP.qH [(0,false),(1,true),(2,false)] kr<|go 1<|cx 0 [] (cL 142) (tH.c (by obtain ⟨_,e,rfl⟩:=H; exact e)) nofun fun g2 _=>?_
 refine go 1<|wg (FB g2 h1 Q e1 (pm 4 [1,2,0,3])) fun _ _=>?_
 exact et g2 3 [2,0,1] 0
theorem aV.c {X1_:As} (h:aV.f k a0 a1=some r):Tr prog 137 [sl aC a0,fE X1_ a1] [X1_] (γ:=Unit) (fun _=>True) (fun g=>vI r) (fun g=>[X1_]):=by
 refine tf func137 h fun R0 F H=>?_
 refine so<|WP.kN H id (fun p54=>[]) (fun p54=>[X1_]++F) (fun p54 H=>?_) (fun H=>?_)
 ·
  refine sp ?_
  cases H.out; exact et () 1 [0] 0
 refine wr 3 0<|go 1<|Dv.jN Q T Q eh<|go 1<|WP.block<|ws 1 [0] 0 ?_
 refine lp (fun j_ (p62:Int)=>aV.l0 k a0 a1 j_ p62) 0 H (fun p62=>[(0,sl aC a0),(1,fE X1_ a1),(7,vI (a0.length:Int)),(8,vI p62)]) (fun p62=>[X1_]++F) ?_
 rintro j_ x55 H
 rcases j_ with _ | j61
 ·
  exact (aZ.no H).elim
 try dsimp only at H
 rw [aV.l0] at H
 refine so<|WP.seq<|ce H ?_ ?_ <;> intro H
 rotate_left
 ·
  refine WP.exit ?_
  have H:=H.out
  exact jn (x55,decide (x55<(a0.length:Int))) H
 refine WP.skip<|WP.seq<|WP.block<|so<|wr 6 0<|go 3<|gr H fun g57 H=>Dv.kg Q T Q Q eh U9 c9 g57.1 g57.2<|lM Q T Q o9 Q<|el H fun t58 h59 H=>Dv.A9 (ret:=vB t58) (X:=X1_) (F:=F) Q T Q Q ⟨_,_,h59,Q,Q⟩ (mc (L:=[X1_]) (F:=F) [0] Q Q Q)<|.fin<|ce H ?_ ?_ <;> intro H
 rotate_left
 ·
  exact WP.skip<|rg 2 0<|go 2<|bk j61 (ax (x55+1)) H
 refine sp ?_
 have H:=H.fW
 cases H.out; exact et () 1 [0] 0
theorem aB.c {X1_:As} {p0_:OV} (h:aB.f k a0 a1=some r):Tr prog 137 [eq p0_.1,fE X1_ a1] [own aC p0_.1 a0,X1_] (γ:=Unit) (fun _=>True) (fun g=>vI r) (fun g=>[own aC p0_.1 a0,X1_]):=by
 refine tf func137 h fun R0 F H=>?_
 refine so<|WP.kN H id (fun p63=>[]) (fun p63=>[own aC p0_.1 a0,X1_]++F) (fun p63 H=>?_) (fun H=>?_)
 ·
  refine sp ?_
  cases H.out; exact et () 2 [0,1] 0
 refine wr 3 0<|go 1<|Dv.kG Q T Q (ab 0 Q) eh<|go 1<|WP.block<|ws 2 [0,1] 0 ?_
 refine lp (fun j_ (p72:Int)=>aB.l0 k a0 a1 j_ p72) 0 H (fun p72=>[(0,eq p0_.1),(1,fE X1_ a1),(7,vI (a0.length:Int)),(8,vI p72)]) (fun p72=>[own aC p0_.1 a0,X1_]++F) ?_
 rintro j_ x64 H
 rcases j_ with _ | j71
 ·
  exact (aZ.no H).elim
 try dsimp only at H
 rw [aB.l0] at H
 refine so<|WP.seq<|ce H ?_ ?_ <;> intro H
 rotate_left
 ·
  refine WP.exit ?_
  have H:=H.out
  exact jn (x64,decide (x64<(a0.length:Int))) H
 refine WP.skip<|WP.seq<|WP.block<|so<|wr 6 0<|go 3<|gr H fun g66 H=>?_
 have h67:x64.toNat<a0.length:=bC g66
 refine Dv.kF Q T Q (ab 0 Q) Q eh U9 c9 g66.1 g66.2<|Dv.oH (j:=x64.toNat) (f:=0) (p:=vS (a0.getD x64.toNat default)) Q T Q (ab 0 Q) h67 U9 Q Q<|el H fun t68 h69 H=>Dv.A9 (ret:=vB t68) (X:=X1_) (F:=[own aC p0_.1 a0]++F) Q T Q Q ⟨_,_,h69,Q,Q⟩ (mc (L:=[own aC p0_.1 a0,X1_]) (F:=F) [1,0] Q Q Q)<|.fin<|ce H ?_ ?_ <;> intro H
 rotate_left
 ·
  exact WP.skip<|rg 2 0<|go 2<|bk j71 (ax (x64+1)) H
 refine sp ?_
 have H:=H.fW
 cases H.out; exact et () 2 [0,1] 0
theorem cB.c {X1_:As} (h:cB.f k a0 a1=some r):Tr prog 122 [sl aC a0,fE X1_ a1] [X1_] (γ:=Unit) (fun _=>True) (fun g=>vB r) (fun g=>[X1_]):=by
 refine tf func122 h fun R0 F H=>?_
 refine so<|wr 5 0<|go 2<|el H fun t75 h76 H=>o8 1 [0] (cL 137) (aV.c h76 (X1_:=X1_)) ?_
 refine gq 2 ?_
 cases H.out; exact et () 1 [0] 0
theorem cO.c {X1_:As} {p0_:OV} (h:cO.f k a0 a1=some r):Tr prog 122 [eq p0_.1,fE X1_ a1] [own aC p0_.1 a0,X1_] (γ:=Unit) (fun _=>True) (fun g=>vB r) (fun g=>[own aC p0_.1 a0,X1_]):=by
 refine tf func122 h fun R0 F H=>?_
 refine so<|wr 5 0<|go 2<|el H fun t77 h78 H=>o8 2 [0,1] (cL 137) (aB.c h78 (p0_:=p0_) (X1_:=X1_)) ?_
 refine gq 2 ?_
 cases H.out; exact et () 2 [0,1] 0
theorem fg.c (h:fg.f a0 a1=some r):Pt prog 295 [vS a0,vS a1] (vB r):=by
 refine pf func295 h fun R0 F H=>?_
 refine so<|wr 14 0<|go 1<|Dv.lens Q T Q U9<|go 1<|Dv.lens Q T Q U9<|gp 2 ?_
 cases KH:decide ((a1.size:Int)≤(a0.size:Int))
 ·
  have H:=H.cf KH
  refine gq 8 ?_
  cases H.out; exact ek 0
 have H:=H.ct KH
 refine go 2<|Dv.lens Q (gg Q) Q U9<|gr H fun g80 H=>Dv.HO Q (gg Q) Q U9 dG (fa Q g80.1) g80.2.1 g80.2.2<|gq 4 ?_
 cases H.out; exact ek 0
theorem ff.c (h:ff.f a0 a1=some r):Pt prog 276 [vS a0,vS a1] (kR [vS r.1,vB r.2]):=by
 refine pf func276 h fun R0 F H=>?_
 refine so<|WP.seq<|wr 4 0<|go 2<|el H fun t81 h82 H=>cl Q (cL 295) Q (fg.c h82)<|go 1<|ce H ?_ ?_ <;> intro H
 ·
  refine sp ?_
  cases H.out; exact ek 0
 refine WP.skip<|wr 6 0<|go 2<|Dv.lens Q T Q U9<|gr H fun g84 H=>Dv.HO Q T Q U9 (fa Q g84.1) dG g84.2.1 g84.2.2<|gq 2 ?_
 cases H.out; exact ek 0
theorem eu.c (h:eu.f a0 a1=some r):Pt prog 254 [vS a0,vS a1] (kR [vS r.1,vB r.2]):=by
 refine pf func254 h fun R0 F H=>?_
 refine so<|wr 7 0<|go 2<|el H fun t85 h86 H=>cl Q (cL 276) Q (ff.c h86)<|eD Q T Q Q<|eD Q T Q Q<|gq 2 ?_
 cases H.out; exact ek 0
theorem iH.c (h:iH.f a0=some r):Pt prog 279 [eq (.int .u8 a0)] (vB r):=by
 refine pf func279 h fun R0 F H=>?_
 refine so<|wr 15 0<|gp 3 ?_
 cases c87:decide (97≤a0)
 ·
  have H:=H.cf c87
  refine gp 7 ?_
  cases c90:decide (48≤a0)
  ·
   have H:=H.cf c90
   refine gq 5 ?_
   cases H.out; exact ek 0
  have H:=H.ct c90
  refine gq 5 ?_
  cases H.out; exact ek 0
 have H:=H.ct c87
 refine gp 4 ?_
 cases c88:decide (a0≤122)
 rotate_left
 ·
  have H:=H.ct c88
  refine gq 8 ?_
  cases H.out; exact ek 0
 have H:=H.cf c88
 refine gp 3 ?_
 cases c89:decide (48≤a0)
 ·
  have H:=H.cf c89
  refine gq 5 ?_
  cases H.out; exact ek 0
 have H:=H.ct c89
 refine gq 5 ?_
 cases H.out; exact ek 0
theorem dp.c (h:dp.f a0 a1=some r):Pt prog 281 [vS a0,eq (.int .u8 a1)] (vI r):=by
 refine pf func281 h fun R0 F H=>?_
 refine so<|wr 4 0<|go 2<|Dv.JR Q T Q (Em func298 kr Q xf298 xg298)<|gq 1 ?_
 cases H.out; exact ek 0
theorem ij.c (h:ij.f a0 a1=some r):Pt prog 297 [vS a0,eq (.int .u8 a1)] (vI r):=by
 refine pf func297 h fun R0 F H=>?_
 refine so<|wr 4 0<|go 2<|el H fun t91 h92 H=>cl Q (cL 281) Q (dp.c h92)<|gq 1 ?_
 cases H.out; exact ek 0
theorem ea.c {c0:BA} (h:ea.f a0 c0=some r):Pt prog 296 [eq (.int .u8 a0),rp [vS c0]] (vB r):=by
 refine pf func296 h fun R0 F H=>?_
 refine so<|wr 9 0<|go 1<|el H fun t93 h94 H=>cl Q (cL 279) Q (iH.c h94)<|gp 1 ?_
 cases c95:t93
 rotate_left
 ·
  have H:=H.ct c95
  refine gq 6 ?_
  cases H.out; exact ek 0
 have H:=H.cf c95
 refine lM Q (gg Q) Q o9 Q<|go 1<|el H fun t96 h97 H=>Dv.call Q (gg Q) (cL 297) Q (ij.c h97)<|gq 3 ?_
 cases H.out; exact ek 0
theorem jx.c (h:jx.f a0=some r):Pt prog 277 [vS a0] (fx r):=by
 refine pf func277 h fun R0 F H=>?_
 refine wr 2 1<|Dv.box Q T Q cE nofun fun b98=>go 1<|wr 2 0<|Dv.gh (rA (E':=[(0,vS a0),(1,rp [vS a0]),(2,eq .nilFunc)]) (l':=F) 0 Q (ah Q ao (ah Q dm (ah Q ao cT))) (bP .nil fun _=>av)) (fun _ _=>?_)
 refine Dv.mkf (Q:=pW (fun a0_=>ea.f a0_ a0)) (cL 296) (by rintro _ _ ⟨a0_,r_,h_,rfl,rfl⟩; exact ea.c h_) Q T Q Q<|gq 1 ?_
 cases H.out; exact ek 0
theorem eg.c (h:eg.f k a0 a1=some r):Pt prog 255 [vS a0,vI a1] (vB r):=by
 refine pf func255 h fun R0 F H=>?_
 refine so<|wr 7 0<|el H fun t99 haa H=>cl Q (cL 277) Q (jx.c haa)<|el H fun ta hac H=>cl Q (cL 277) Q (jx.c hac)<|el H fun tc had H=>cl Q (cL 277) Q (jx.c had)<|Dv.blda (qs:=[fx t99,fx ta,fx tc]) (css:=[[fx t99],[fx ta],[fx tc]]) Q T U382 U335 c335 z382 Q ⟨(cells_one nR),⟨(cells_one nR),⟨(cells_one nR),T⟩⟩⟩ Q Q<|go 1<|gr H fun ga H=>Dv.ixa (Kd:=mr) (xs:=([t99,ta,tc]:List (Int→Option Bool))) Q T Q Q Q U382 U335 Q c335 Q Q ga.1 ga.2 Q<|go 1<|WP.kN H id (fun pa=>[(0,vS a0)]) (fun pa=>F) (fun pa H=>?_) (fun H=>?_)
 ·
  refine wr 8 0<|gp 3 ?_
  cases cc:!decide (a0=eE)
  ·
   have H:=H.cf cc
   refine gq 5 ?_
   cases H.out; exact ek 0
  have H:=H.ct cc
  refine go 1<|Dv.lens Q (gg Q) Q U9<|gq 3 ?_
  cases H.out; exact ek 0
 refine wr 3 0<|go 1<|Dv.lens Q T Q U9<|go 1<|WP.block<|ws 0 [] 0 ?_
 refine lp (fun j_ (pc:Int)=>eg.l0 k a0 a1 t99 ta tc j_ pc) 0 H (fun pc=>[(0,vS a0),(5,fx (mr.at ([t99,ta,tc]:List (Int→Option Bool)) a1)),(14,vI (a0.size:Int)),(15,vI pc)]) (fun pc=>F) ?_
 rintro j_ xa H
 rcases j_ with _ | ja
 ·
  exact (aZ.no H).elim
 try dsimp only at H
 rw [eg.l0] at H
 refine so<|WP.seq<|ce H ?_ ?_ <;> intro H
 rotate_left
 ·
  refine WP.exit ?_
  have H:=H.out
  exact jn (xa,decide (xa<(a0.size:Int))) H
 refine WP.skip<|WP.seq<|WP.block<|so<|wr 6 0<|go 3<|gr H fun gb H=>Dv.qu Q T Q Q U9 gb.1 gb.2<|el H fun te hae H=>Dv.sV (ret:=vB te) Q T Q Q ⟨_,_,hae,Q,Q⟩<|go 1<|ce H ?_ ?_ <;> intro H
 rotate_left
 ·
  exact WP.skip<|rg 2 0<|go 2<|bk ja (ax (xa+1)) H
 refine sp ?_
 have H:=H.fW
 cases H.out; exact ek 0
theorem ey.c (h:ey.f a0 a1=some r):Pt prog 269 [vS a0,vS a1] (vI r):=by
 refine pf func269 h fun R0 F H=>?_
 refine so<|wr 3 0<|go 1<|Dv.lens Q T Q U9<|go 1<|WP.seq<|WP.block<|wr 8 0<|gp 3 ?_
 cases Hy:((a1.size:Int)==0)
 rotate_left
 ·
  have H:=H.ct Hy
  refine go 5<|WP.cond Q (fun _=>?_) nofun
  refine sp ?_
  cases H.out; exact ek 0
 have H:=H.cf Hy
 refine go 5<|ce H ?_ ?_ <;> intro H
 ·
  refine sp ?_
  cases H.out; exact ek 0
 refine so<|ce H ?_ ?_ <;> intro H
 ·
  refine wr 5 0<|go 2<|gr H fun ga H=>Dv.qu Q T Q Q U9 ga.1 ga.2<|el H fun ta haa H=>cl Q (cL 281) Q (dp.c haa)<|gq 1 ?_
  cases H.out; exact ek 0
 refine wr 5 0<|go 2<|Dv.lens Q T Q U9<|go 2<|ce H ?_ ?_ <;> intro H
 rotate_left
 ·
  exact (aZ.no H).elim
 refine sp ?_
 cases H.out; exact ek 0
theorem jF.c (h:jF.f a0 a1=some r):Pt prog 278 [vS a0,vS a1] (kR [vS r.1,vS r.2.1,vB r.2.2]):=by
 refine pf func278 h fun R0 F H=>?_
 refine so<|WP.seq<|wr 4 0<|go 2<|el H fun ta haa H=>cl Q (cL 269) Q (ey.c haa)<|go 1<|so<|ce H ?_ ?_ <;> intro H
 rotate_left
 ·
  refine WP.skip<|sp ?_
  cases H.out; exact ek 0
 refine wd mX 12 0<|go 2<|gr H fun ga H=>Dv.HO Q T Q U9 dG (fa Q ga.1) ga.2.1 ga.2.2<|go 3<|Dv.lens Q T Q U9<|go 1<|gr H fun gb H=>Dv.HO Q T Q U9 (fa Q gb.1) dG gb.2.1 gb.2.2<|gq 3 ?_
 cases H.out; exact ek 0
theorem j7.c (h:j7.f a0 a1=some r):Pt prog 256 [vS a0,vS a1] (kR [vS r.1,vS r.2.1,vB r.2.2]):=by
 refine pf func256 h fun R0 F H=>?_
 refine so<|wr 9 0<|go 2<|el H fun ta haa H=>cl Q (cL 278) Q (jF.c haa)<|eD Q T Q Q<|eD Q T Q Q<|eD Q T Q Q<|gq 3 ?_
 cases H.out; exact ek 0
theorem lh.c (h:lh.f k a0=some r):Pt prog 257 [vS a0] (vB r):=by
 refine pf func257 h fun R0 F H=>?_
 refine so<|wr 16 0<|go 1<|el H fun ta haa H=>cl Q (cL 255) Q (eg.c haa)<|gp 1 ?_
 cases cc:ta
 ·
  have H:=H.cf cc
  refine gq 13 ?_
  cases H.out; exact ek 0
 have H:=H.ct cc
 refine go 1<|gr H fun ga H=>Dv.qu Q (gg Q) Q Q U9 ga.1 ga.2<|el H fun tc hac H=>Dv.call Q (gg Q) (cL 279) Q (iH.c hac)<|gp 2 ?_
 cases cg:tc
 ·
  have H:=H.cf cg
  refine gq 8 ?_
  cases H.out; exact ek 0
 have H:=H.ct cg
 refine go 2<|Dv.lens Q (gg Q) Q U9<|go 1<|gr H fun gb H=>Dv.qu Q (gg Q) Q Q U9 gb.1 gb.2<|el H fun te had H=>Dv.call Q (gg Q) (cL 279) Q (iH.c had)<|gq 2 ?_
 cases H.out; exact ek 0
theorem j9.c (h:j9.f k a0 a1=some r):Pt prog 225 [vS a0,vS a1] (kR [vS r.1,vS r.2.1,vB r.2.2]):=by
 refine pf func225 h fun R0 F H=>?_
 refine so<|wr 8 0<|go 2<|el H fun ta haa H=>cl Q (cL 254) Q (eu.c haa)<|go 1<|eD Q T Q Q<|eD Q T Q Q<|go 2<|wr 9 0<|go 1<|el H fun tc hac H=>cl Q (cL 256) Q (j7.c hac)<|go 1<|eD Q T Q Q<|eD Q T Q Q<|eD Q T Q Q<|go 3<|wr 17 0<|gp 4 ?_
 cases cc:ta.2
 ·
  have H:=H.cf cc
  refine gq 13 ?_
  cases H.out; exact ek 0
 have H:=H.ct cc
 refine gp 3 ?_
 cases cg:tc.2.2
 ·
  have H:=H.cf cg
  refine gq 10 ?_
  cases H.out; exact ek 0
 have H:=H.ct cg
 refine go 1<|el H fun te had H=>Dv.call Q (gg Q) (cL 255) Q (eg.c had)<|gp 2 ?_
 cases ci:te
 ·
  have H:=H.cf ci
  refine gq 6 ?_
  cases H.out; exact ek 0
 have H:=H.ct ci
 refine go 1<|el H fun tg hae H=>Dv.call Q (gg Q) (cL 257) Q (lh.c hae)<|gq 4 ?_
 cases H.out; exact ek 0
theorem lX.c (h:lX.f k a0=some r):Pt prog 156 [vS a0] (vB r):=by
 refine pf func156 h fun R0 F H=>?_
 refine so<|wr 9 0<|go 1<|el H fun ta haa H=>cl Q (cL 225) Q (j9.c haa)<|go 1<|eD Q T Q Q<|eD Q T Q Q<|eD Q T Q Q<|go 3<|sp ?_
 cases H.out; exact ek 0
theorem ei.c (h:ei.f k a0=some r):Pt prog 211 [vS a0] (vB r):=by
 refine pf func211 h fun R0 F H=>?_
 refine so<|wr 7 0<|go 1<|el H fun ta haa H=>cl Q (cL 254) Q (eu.c haa)<|go 1<|eD Q T Q Q<|eD Q T Q Q<|go 2<|wr 6 0<|gp 2 ?_
 cases cc:ta.2
 ·
  have H:=H.cf cc
  refine gq 4 ?_
  cases H.out; exact ek 0
 have H:=H.ct cc
 refine go 1<|el H fun tc hac H=>Dv.call Q (gg Q) (cL 255) Q (eg.c hac)<|gq 2 ?_
 cases H.out; exact ek 0
theorem kj.c (h:kj.f k a0=some r):Pt prog 212 [vS a0] (vB r):=by
 refine pf func212 h fun R0 F H=>?_
 refine so<|wr 9 0<|go 1<|el H fun ta haa H=>cl Q (cL 225) Q (j9.c haa)<|go 1<|eD Q T Q Q<|eD Q T Q Q<|eD Q T Q Q<|go 3<|sp ?_
 cases H.out; exact ek 0
theorem dA.c (h:dA.f k a0=some r):Pt prog 143 [agg (Event.enc a0)] (vB r):=by
 refine pf func143 h fun R0 F H=>?_
 refine wr 2 1<|Dv.box Q T Q cA nofun fun ba=>go 1<|WP.scope<|WP.seq<|wr 32 0<|gl 2 [0]<|el H fun ta haa H=>cl Q (cL 211) Q (ei.c haa)<|gp 2 ?_
 cases cc:!ta
 rotate_left
 ·
  have H:=H.ct cc
  refine go 27<|WP.cond Q (fun _=>?_) nofun
  refine sp ?_
  cases H.out; exact ek 1
 have H:=H.cf cc
 refine gl 2 [0]<|el H fun tc hac H=>Dv.call Q (gg Q) (cL 212) Q (kj.c hac)<|gp 3 ?_
 cases cg:!tc
 rotate_left
 ·
  have H:=H.ct cg
  refine go 21<|WP.cond Q (fun _=>?_) nofun
  refine sp ?_
  cases H.out; exact ek 1
 have H:=H.cf cg
 refine gl 2 [0]<|el H fun te had H=>Dv.call Q (gg Q) (cL 156) Q (lX.c had)<|gp 3 ?_
 cases ci:!te
 rotate_left
 ·
  have H:=H.ct ci
  refine go 15<|WP.cond Q (fun _=>?_) nofun
  refine sp ?_
  cases H.out; exact ek 1
 have H:=H.cf ci
 refine gl 2 [0]<|Dv.jN Q (gg Q) Q eh<|gp 3 ?_
 cases HA:decide (4<(a0.ae.length:Int))
 rotate_left
 ·
  have H:=H.ct HA
  refine go 9<|WP.cond Q (fun _=>?_) nofun
  refine sp ?_
  cases H.out; exact ek 1
 have H:=H.cf HA
 refine kW 5 [0] ?_
 cases cj:decide (a0.bL<0)
 rotate_left
 ·
  have H:=H.ct cj
  refine go 4<|WP.cond Q (fun _=>?_) nofun
  refine sp ?_
  cases H.out; exact ek 1
 have H:=H.cf cj
 refine gl 4 [0]<|ce H ?_ ?_ <;> intro H
 ·
  refine sp ?_
  cases H.out; exact ek 1
 refine WP.skip<|WP.seq<|wr 21 0<|kW 4 [0] ?_
 cases ck:!decide (a0.ag=eE)
 ·
  have H:=H.cf ck
  refine go 17<|WP.cond Q nofun (fun _=>?_)
  refine WP.skip<|so<|WP.seq<|WP.label<|WP.iQ H id (fun pa=>[(3,vB pa.1)]) (fun pa=>[ay ba 110 (Event.enc a0)]++F) (fun pa H=>?_) (fun H=>?_)
  ·
   refine sp ?_
   cases H.out; exact ek 1
  refine wr 4 0<|gl 2 [0]<|Dv.jN Q T Q eh<|go 1<|WP.block<|ws 1 [0] 0 ?_
  refine lp (fun j_ (pc:Int)=>dA.l1 k a0 j_ pc) 0 H (fun pc=>[(1,bO ba),(3,vB true),(60,sl aC a0.ae),(61,vI (a0.ae.length:Int)),(62,vI pc)]) (fun pc=>[ay ba 110 (Event.enc a0)]++F) ?_
  rintro j_ xa H
  rcases j_ with _ | ja
  ·
   exact (aZ.no H).elim
  try dsimp only at H
  rw [dA.l1] at H
  refine so<|WP.seq<|ce H ?_ ?_ <;> intro H
  rotate_left
  ·
   refine WP.exit ?_
   have H:=H.out
   exact jn (true,xa,decide (xa<(a0.ae.length:Int))) H
  refine WP.skip<|WP.seq<|WP.block<|wr 5 0<|go 1<|gr H fun ga H=>Dv.kg Q T Q Q eh U9 c9 ga.1 ga.2<|lM Q T Q o9 Q<|go 2<|wr 23 0<|go 1<|el H fun tg hae H=>cl Q (cL 211) Q (ei.c hae)<|gp 2 ?_
  cases cn:!tg
  rotate_left
  ·
   have H:=H.ct cn
   refine go 19<|WP.cond Q (fun _=>?_) nofun
   refine so<|WP.exit ?_
   have H:=H.out
   exact jn (false,xa,decide (xa<(a0.ae.length:Int))) H
  have H:=H.cf cn
  refine kW 6 [0] ?_
  cases co:decide ((aC.at a0.ae xa)=a0.b9)
  rotate_left
  ·
   have H:=H.ct co
   refine go 13<|WP.cond Q (fun _=>?_) nofun
   refine so<|WP.exit ?_
   have H:=H.out
   exact jn (false,xa,decide (xa<(a0.ae.length:Int))) H
  have H:=H.cf co
  refine gp 3 ?_
  cases cp:decide (0<xa)
  ·
   have H:=H.cf cp
   refine go 10<|WP.cond Q nofun (fun _=>?_)
   exact WP.skip<|rg 2 0<|go 2<|bk ja (ax (xa+1)) H
  have H:=H.ct cp
  refine gl 5 [0]<|gr H fun gb H=>Dv.kg Q (gg Q) Q Q eh U9 c9 gb.1 gb.2<|lM Q (gg Q) Q o9 Q<|go 3<|ce H ?_ ?_ <;> intro H
  rotate_left
  ·
   exact WP.skip<|rg 2 0<|go 2<|bk ja (ax (xa+1)) H
  refine so<|WP.exit ?_
  have H:=H.out
  exact jn (false,xa,decide (xa<(a0.ae.length:Int))) H
 have H:=H.ct ck
 refine gl 2 [0]<|el H fun tj haf H=>Dv.call Q (gg Q) (cL 211) Q (ei.c haf)<|gp 2 ?_
 cases cq:!tj
 rotate_left
 ·
  have H:=H.ct cq
  refine go 12<|WP.cond Q (fun _=>?_) nofun
  refine sp ?_
  cases H.out; exact ek 1
 have H:=H.cf cq
 refine kW 7 [0,0] ?_
 cases Ge:decide (a0.ag=a0.b9)
 rotate_left
 ·
  have H:=H.ct Ge
  refine go 5<|WP.cond Q (fun _=>?_) nofun
  refine sp ?_
  cases H.out; exact ek 1
 have H:=H.cf Ge
 refine gl 5 [0]<|ce H ?_ ?_ <;> intro H
 ·
  refine sp ?_
  cases H.out; exact ek 1
 refine WP.skip<|so<|WP.seq<|WP.label<|WP.iQ H id (fun pe=>[(3,vB pe.1)]) (fun pe=>[ay ba 110 (Event.enc a0)]++F) (fun pe H=>?_) (fun H=>?_)
 ·
  refine sp ?_
  cases H.out; exact ek 1
 refine wr 4 0<|gl 2 [0]<|Dv.jN Q T Q eh<|go 1<|WP.block<|ws 1 [0] 0 ?_
 refine lp (fun j_ (pg:Int)=>dA.l0 k a0 j_ pg) 0 H (fun pg=>[(1,bO ba),(3,vB true),(60,sl aC a0.ae),(61,vI (a0.ae.length:Int)),(62,vI pg)]) (fun pg=>[ay ba 110 (Event.enc a0)]++F) ?_
 rintro j_ xb H
 rcases j_ with _ | jc
 ·
  exact (aZ.no H).elim
 try dsimp only at H
 rw [dA.l0] at H
 refine so<|WP.seq<|ce H ?_ ?_ <;> intro H
 rotate_left
 ·
  refine WP.exit ?_
  have H:=H.out
  exact jn (true,xb,decide (xb<(a0.ae.length:Int))) H
 refine WP.skip<|WP.seq<|WP.block<|wr 5 0<|go 1<|gr H fun gi H=>Dv.kg Q T Q Q eh U9 c9 gi.1 gi.2<|lM Q T Q o9 Q<|go 2<|wr 23 0<|go 1<|el H fun tm hag H=>cl Q (cL 211) Q (ei.c hag)<|gp 2 ?_
 cases cr:!tm
 rotate_left
 ·
  have H:=H.ct cr
  refine go 19<|WP.cond Q (fun _=>?_) nofun
  refine so<|WP.exit ?_
  have H:=H.out
  exact jn (false,xb,decide (xb<(a0.ae.length:Int))) H
 have H:=H.cf cr
 refine kW 6 [0] ?_
 cases cu:decide ((aC.at a0.ae xb)=a0.b9)
 rotate_left
 ·
  have H:=H.ct cu
  refine go 13<|WP.cond Q (fun _=>?_) nofun
  refine so<|WP.exit ?_
  have H:=H.out
  exact jn (false,xb,decide (xb<(a0.ae.length:Int))) H
 have H:=H.cf cu
 refine gp 3 ?_
 cases cw:decide (0<xb)
 ·
  have H:=H.cf cw
  refine go 10<|WP.cond Q nofun (fun _=>?_)
  exact WP.skip<|rg 2 0<|go 2<|bk jc (ax (xb+1)) H
 have H:=H.ct cw
 refine gl 5 [0]<|gr H fun gj H=>Dv.kg Q (gg Q) Q Q eh U9 c9 gj.1 gj.2<|lM Q (gg Q) Q o9 Q<|go 3<|ce H ?_ ?_ <;> intro H
 rotate_left
 ·
  exact WP.skip<|rg 2 0<|go 2<|bk jc (ax (xb+1)) H
 refine so<|WP.exit ?_
 have H:=H.out
 exact jn (false,xb,decide (xb<(a0.ae.length:Int))) H
theorem ew.c {v0_0:OV} {b0_:Nat} (h:ew.f a0 a1=some r):Tr prog 144 [bO b0_,vS a1] [ay b0_ 265 [vS a0.cM,eq v0_0.1],kh Value.string aT.O v0_0.1 a0.ar] (γ:=Unit) (fun _=>True) (fun g=>vB r) (fun g=>[ay b0_ 265 [vS a0.cM,eq v0_0.1],kh Value.string aT.O v0_0.1 a0.ar]):=by
 refine tf func144 h fun R0 F H=>?_
 refine so<|wr 8 0<|gl 5 [0]<|vg (mq 1 Q) fun za haa=>?_
 refine Dv.Ep iV Q T Q (ab 0 Q) Q vT (dR U9) A7 (fun _=>Q)<|Dv.pm1 (BC haa Q) Q T Q Q U266<|go 1<|wg (iy haa Q (pm 3 [0,1,2])) fun _ _=>?_
 cases H.out; exact et () 2 [1,0] 0
theorem eQ.c {cb0_ cd0_:Nat} {cq0_ cv0_0:OV} {ch0_:cq0_.1 = .pointer (some ⟨cd0_,0,none⟩)} {c0:bf} (h:eQ.f a0 c0=some r):Tr prog 145 [vS a0,bO cb0_] [ay cb0_ 193 [eq cq0_.1],ay cd0_ 265 [vS c0.cM,eq cv0_0.1],kh Value.string aT.O cv0_0.1 c0.ar] (γ:=Unit) (fun _=>True) (fun g=>vB r) (fun g=>[ay cb0_ 193 [eq cq0_.1],ay cd0_ 265 [vS c0.cM,eq cv0_0.1],kh Value.string aT.O cv0_0.1 c0.ar]):=by
 refine tf func145 h fun R0 F H=>?_
 refine so<|wr 5 0<|gl 2 [0]<|el H fun ta haa H=>o8 3 [1,2,0] (cL 144) (Tr.jY (ew.c haa (b0_:=cd0_) (v0_0:=cv0_0)) (.cons (iD ch0_) (.cons cG .nil))) ?_
 refine gq 2 ?_
 cases H.out; exact et () 3 [0,1,2] 0
theorem dL.c (h:dL.f a0=some r):Tr prog 213 [sl aC a0] [] (γ:=OV) (fun _=>True) (fun g=>eq g.1) (fun g=>[own aC g.1 r]):=by
 unfold dL.f at h
 obtain ⟨h0,h5⟩:=(aZ.of h).aq
 obtain rfl:=aZ.out h5
 clear h h5
 refine (Tr.body func213 (c:=_) Q ntmps213 (Nat.le_of_ble_eq_true Q) fun R0 F=>?_)
 refine WP.seq<|WP.qH [(0,false)] kr<|go 1<|WP.seq<|WP.seq<|WP.qH [(0,false),(1,true)] kr<|go 1<|Dv.snil Q T Q Q eh nofun (fun b hb=>?_)
 refine .fin<|WP.cond Q (fun c0=>?_) (fun c0=>?_)
 ·
  obtain rfl:=hb c0
  refine WP.seq<|WP.qH [(0,false)] kr<|go 1<|wg (eX aC none) fun _ _=>?_
  exact et l6 1 [0] 0
 refine WP.skip<|WP.seq<|WP.qH [(0,true),(1,false),(2,true),(3,false)] kr<|Dv.lit0 aC Q T eh U9 c9 z9 nofun (fun v1=>?_)
 refine go 1<|Dv.F0 (Kd:=aC) (xs:=[]) (v:=v1.1) (jj:=0) (ys:=a0) (fun v2:OV=>[own aC v2.1 a0]++F) Q T Q Q Q bY eh (.inr ⟨_,eh⟩) xH Q dc (by simpa using h0) Q nofun (fun v2=>?_)
 exact go 1<|rt i2 Q v2 1 [0] 0 (.cons (aG Q) .nil)
theorem iA.c (h:iA.f a0=some r):Pt prog 146 [agg (Event.enc a0)] (agg (Event.enc r)):=by
 refine pf func146 h fun R0 F H=>?_
 refine wr 2 3<|Dv.box Q T Q cA nofun fun ba=>al Q T uR nofun fun bc=>.fin<|wr 5 20<|gl 2 [1]<|el H fun ta haa H=>cx 2 [0,1] (cL 213) (dL.c haa) nofun fun ga _=>?_
 refine go 1<|sx 2 Q T Q Q (cells_one bQ) HZ Q Q Q nofun ?_
 refine .fin<|wr 2 2<|gl 1 [2]<|sy 1 ?_
 refine .fin<|WP.gh (eF (E':=[(2,bO bc)]) (l':=[ay bc 110 [vS a0.b9,vS a0.aa,sl aC ta,vS a0.ag,vS a0.ak,vI a0.bL],ay ba 110 [vS a0.b9,vS a0.aa,sl aC ta,vS a0.ag,vS a0.ak,vI a0.bL]]++F) 0 Q (ah Q ao cT) (bP (.cons (cJ (.cons ao (.cons ao (.cons dm (.cons ao (.cons ao (.cons ao .nil))))))) (.cons (cJ (.cons ao (.cons ao (.cons dm (.cons ao (.cons ao (.cons ao .nil))))))) .nil)) fun _=>av)) (fun _ _=>?_)
 cases H.out; exact r2 i2 Q (.cons (aw Q km Q mK (ab 0 Q) Q) .nil)
theorem dag_Dag_Add.c {p0_:OV} (h:dag_Dag_Add.f k a0 a1=some r):Tr prog 89 [eq p0_.1,agg (Event.enc a1)] [bf.O p0_ a0] (γ:=Unit) (fun _=>True) (fun g=>vI r.1) (fun g=>[bf.O p0_ r.2]):=by
 refine tf func89 h fun R0 F H=>?_
 refine wr 3 3<|Dv.box Q T Q (cells_one bQ) nofun fun ba=>Dv.box Q T Q cA nofun fun bc=>go 1<|WP.seq<|WP.block<|WP.seq<|wg (bf.iM 2 Q) fun ga haa=>?_
 refine dg mX 13 0<|gl 1 [2]<|el H fun ta hac H=>cl Q (cL 143) Q (dA.c hac)<|gp 2 ?_
 cases cc:!ta
 rotate_left
 ·
  have H:=H.ct cc
  refine go 9<|WP.cond Q (fun _=>?_) nofun
  refine so<|wg (bf.shut (p:=p0_) (m:=a0) (ga.1,ga.2) haa (pm 4 [0,1,2,3])) fun _ _=>?_
  cases H.out; exact et () 3 [1,2,0] 2
 have H:=H.cf cc
 refine gl 3 [2,3]<|Dv.bZ haa Q (gg Q) Q<|fp haa Q (gg Q) Q HN<|gl 4 [0]<|ce H ?_ ?_ <;> intro H
 ·
  refine so<|wg (bf.shut (p:=p0_) (m:=a0) (ga.1,ga.2) haa (pm 4 [0,1,2,3])) fun _ _=>?_
  cases H.out; exact et () 3 [1,2,0] 2
 refine wr 5 0<|gl 3 [3,2]<|el H fun tc had H=>o8 4 [0,1,2,3] (cL 144) (Tr.jY (ew.c had (b0_:=ga.1) (v0_0:=ga.2)) (.cons (iD haa) (.cons cG .nil))) ?_
 refine go 1<|ce H ?_ ?_ <;> intro H
 ·
  refine so<|wg (bf.shut (p:=p0_) (m:=a0) (ga.1,ga.2) haa (pm 4 [0,1,2,3])) fun _ _=>?_
  cases H.out; exact et () 3 [1,2,0] 2
 refine wr 5 0<|gl 2 [2]<|Dv.mkx (Q:=jI (fun a0_=>eQ.f a0_ a0)) (L:=[ay ba 193 [eq p0_.1],ay ga.1 265 [vS a0.cM,eq ga.2.1],kh Value.string aT.O ga.2.1 a0.ar]) (cL 145) (by rintro _ _ ⟨a0_,r_,h_,rfl,rfl⟩; exact eQ.c h_ (cb0_:=ba) (cq0_:=p0_) (cd0_:=ga.1) (ch0_:=haa) (cv0_0:=ga.2)) Q T Q Q<|el H fun te hae H=>o8 4 [3,0,1,2] (cL 122) (Tr.Ja (A:=[]) (L:=[ay ba 193 [eq p0_.1],ay ga.1 265 [vS a0.cM,eq ga.2.1],kh Value.string aT.O ga.2.1 a0.ar]) (cB.c hae (X1_:=(pk [ay ba 193 [eq p0_.1],ay ga.1 265 [vS a0.cM,eq ga.2.1],kh Value.string aT.O ga.2.1 a0.ar])))) ?_
 refine go 1<|ce H ?_ ?_ <;> intro H
 ·
  refine so<|wg (bf.shut (p:=p0_) (m:=a0) (ga.1,ga.2) haa (pm 4 [0,1,2,3])) fun _ _=>?_
  cases H.out; exact et () 3 [1,2,0] 2
 refine WP.skip<|WP.kN H id (fun pa=>[(2,bO ba),(3,bO bc)]) (fun pa=>[ay bc 110 (Event.enc a1),ay ba 193 [eq p0_.1],bf.O p0_ a0]++F) (fun pa H=>?_) (fun H=>?_)
 rotate_left
 ·
  refine sf [2]<|ce H ?_ ?_ <;> intro H
  rotate_left
  ·
   refine WP.skip ?_
   have H:=H.out
   refine ng (bf.shut (p:=p0_) (m:=a0) (ga.1,ga.2) haa (pm 4 [0,1,2,3])) fun _ _=>?_
   refine ns 3 [1,2,0] 0 ?_
   exact jn () H
  refine WP.seq<|wg (mq 1 Q) fun za haf=>?_
  refine dg mX 8 0<|gl 1 [4]<|Dv.bZ haa Q T Q<|fp haa Q T Q tM<|gl 3 [2,3]<|Dv.Ep iV Q T Q (ab 0 Q) Q vT (dR U9) A7 (fun _=>Q)<|go 1<|WP.seq<|wr 2 0<|go 1<|Dv.pm0 (BC haf Q) Q T Q Q U266<|.fin<|ce H ?_ ?_ <;> intro H
  ·
   refine so<|wg (iy haf Q (pm 5 [0,1,2,3,4])) fun _ _=>?_
   refine wg (bf.shut (p:=p0_) (m:=a0) (ga.1,ga.2) haa (pm 4 [1,0,2,3])) fun _ _=>?_
   have H:=H.fW
   cases H.out; exact et () 3 [1,2,0] 2
  refine WP.skip<|wr 14 0<|go 1<|gr H fun gb H=>vg (qB haf Q gb (pm 5 [1,0,2,3,4])) fun _ _=>?_
  refine Dv.pA aT.nn Q T Q (ab 0 Q)<|vg (aT.iM 0 Q) fun gi hag=>?_
  refine fp hag Q T Q tL<|kW 4 [0] ?_
  cases cg:!decide (((((mget a0.ar a1.ag).getD default).fe).ag)=eE)
  rotate_left
  ·
   have H:=H.ct cg
   refine go 7<|WP.cond Q (fun _=>?_) nofun
   refine so<|wg (aT.shut (p:=((mget (cY a0.ar za) a1.ag).getD iV)) (m:=(mget a0.ar a1.ag).getD default) gi hag (pm 6 [0,1,2,3,4,5])) fun _ _=>?_
   refine wg (oa haf Q gb (pm 6 [0,1,2,3,4,5])) fun _ _=>?_
   refine wg (iy haf Q (pm 5 [1,0,2,3,4])) fun _ _=>?_
   refine wg (bf.shut (p:=p0_) (m:=a0) (ga.1,ga.2) haa (pm 4 [1,0,2,3])) fun _ _=>?_
   have H:=H.fW
   cases H.out; exact et () 3 [1,2,0] 2
  have H:=H.cf cg
  refine go 1<|Dv.bZ hag Q (gg Q) Q<|fp hag Q (gg Q) Q tL<|gl 4 [0]<|ce H ?_ ?_ <;> intro H
  rotate_left
  ·
   refine WP.skip ?_
   have H:=H.out
   refine ng (aT.shut (p:=((mget (cY a0.ar za) a1.ag).getD iV)) (m:=(mget a0.ar a1.ag).getD default) gi hag (pm 6 [0,1,2,3,4,5])) fun _ _=>?_
   refine ng (oa haf Q gb (pm 6 [0,1,2,3,4,5])) fun _ _=>?_
   refine ng (iy haf Q (pm 5 [1,0,2,3,4])) fun _ _=>?_
   refine ng (bf.shut (p:=p0_) (m:=a0) (ga.1,ga.2) haa (pm 4 [1,0,2,3])) fun _ _=>?_
   refine ns 3 [1,2,0] 0 ?_
   exact jn () H
  refine so<|wg (aT.shut (p:=((mget (cY a0.ar za) a1.ag).getD iV)) (m:=(mget a0.ar a1.ag).getD default) gi hag (pm 6 [0,1,2,3,4,5])) fun _ _=>?_
  refine wg (oa haf Q gb (pm 6 [0,1,2,3,4,5])) fun _ _=>?_
  refine wg (iy haf Q (pm 5 [1,0,2,3,4])) fun _ _=>?_
  refine wg (bf.shut (p:=p0_) (m:=a0) (ga.1,ga.2) haa (pm 4 [1,0,2,3])) fun _ _=>?_
  have H:=H.fW
  cases H.out; exact et () 3 [1,2,0] 2
 refine wr 5 8<|gl 1 [0]<|el H fun tg hah H=>cl Q (cL 146) Q (iA.c hah)<|Dv.lx (qs:=[vS tg.b9,vS tg.aa,sl aC tg.ae,vS tg.ag,vS tg.ak,vI tg.bL,vI 0,vB false]) (css:=[Event.enc tg]) Q T ID pl268 z268 Q ⟨(bn (Event.K.one _)),T⟩ Q Q<|Dv.box Q T Q cA nofun fun bd=>go 1<|WP.iQ H id (fun pc=>[(2,bO ba),(3,bO bc),(6,bO bd)]) (fun pc=>[ay bd 268 [vS tg.b9,vS tg.aa,sl aC tg.ae,vS tg.ag,vS tg.ak,vI tg.bL,vI pc.2.2.1,vB false],ay bc 110 (Event.enc a1),ay ba 193 [eq p0_.1],bf.O p0_ pc.2.2.2]++F) (fun pc H=>?_) (fun H=>?_)
 ·
  refine WP.seq<|wg (bf.iM 3 Q) fun gj hai=>?_
  refine wg (aT.shut (p:=(⟨.pointer (some ⟨bd,0,none⟩),Q⟩:OV)) (m:=(⟨tg,pc.2.2.1,false⟩:aT)) bd Q (pm 5 [2,0,1,3,4])) fun _ _=>?_
  refine wg (mq 2 Q) fun zb haj=>?_
  refine dg mX 8 128<|gl 1 [5]<|Dv.bZ hai Q T Q<|fp hai Q T Q tM<|gl 4 [3,4]<|Dv.mup (vp:=fun p:OV=>eq p.1) (jj:=0) (⟨.pointer (some ⟨bd,0,none⟩),Q⟩:OV) Q T Q Q Q Q vT (dR U9) (fun _=>fh kr)<|.fin<|so<|wg (BY aT.nn haj Q (pm 6 [0,1,2,3,4,5])) fun _ _=>?_
  refine wg (bf.shut (p:=p0_) (m:=(⟨pc.2.2.2.cM,mput pc.2.2.2.ar a1.b9 (⟨tg,pc.2.2.1,false⟩:aT)⟩:bf)) (gj.1,gj.2) hai (pm 4 [1,0,2,3])) fun _ _=>?_
  cases H.out; exact et () 3 [1,2,0] 2
 refine wr 4 0<|gl 2 [1]<|Dv.jN Q T Q eh<|go 1<|WP.block<|ws 4 [0,1,2,3] 0 ?_
 refine lp (fun j_ (pe:Int×Int×bf)=>dag_Dag_Add.l0 k a1 j_ pe.1 pe.2.1 pe.2.2) (0,0,a0) H (fun pe=>[(2,bO ba),(3,bO bc),(6,bO bd),(63,sl aC a1.ae),(64,vI (a1.ae.length:Int)),(65,vI pe.1)]) (fun pe=>[ay bd 268 [vS tg.b9,vS tg.aa,sl aC tg.ae,vS tg.ag,vS tg.ak,vI tg.bL,vI pe.2.1,vB false],ay bc 110 (Event.enc a1),ay ba 193 [eq p0_.1],bf.O p0_ pe.2.2]++F) ?_
 rintro j_ ⟨xa,xb,xc⟩ H
 rcases j_ with _ | ja
 ·
  exact (aZ.no H).elim
 try dsimp only at H
 rw [dag_Dag_Add.l0] at H
 refine so<|WP.seq<|ce H ?_ ?_ <;> intro H
 rotate_left
 ·
  refine WP.exit ?_
  have H:=H.out
  exact jn (xa,decide (xa<(a1.ae.length:Int)),xb,xc) H
 refine WP.skip<|WP.seq<|WP.block<|wr 3 0<|gr H fun gk H=>Dv.kg Q T Q Q eh U9 c9 gk.1 gk.2<|lM Q T Q o9 Q<|go 1<|WP.seq<|wg (bf.iM 3 Q) fun gm hak=>?_
 refine wg (mq 1 Q) fun zc ham=>?_
 refine gr H fun gn H=>wg (qB ham Q gn (pm 6 [1,0,2,3,4,5])) fun _ _=>?_
 refine wg (aT.iM 0 Q) fun gu han=>?_
 refine dg mX 19 262144<|gl 6 [4,6]<|Dv.bZ hak Q T Q<|fp hak Q T Q tM<|gl 2 [3]<|Dv.Ep iV Q T Q (ab 2 Q) Q vT (dR U9) A7 (fun _=>Q)<|Dv.bZ han Q T Q<|fp han Q T Q w9<|gl 2 [0]<|Dv.IH Q T Q Q<|go 2<|sv 4 ?_
 refine .fin<|rg 9 256<|gl 1 [6]<|Dv.bZ hak Q T Q<|fp hak Q T Q tM<|gl 2 [3]<|Dv.Ep iV Q T Q (ab 2 Q) Q vT (dR U9) A7 (fun _=>Q)<|Dv.bZ han Q T Q<|fp han Q T Q Ig<|sy 0 ?_
 refine .fin<|rg 2 0<|go 2<|ng (aT.shut (p:=((mget (cY xc.ar zc) (aC.at a1.ae xa)).getD iV)) (m:=(⟨((mget xc.ar (aC.at a1.ae xa)).getD default).fe,((mget xc.ar (aC.at a1.ae xa)).getD default).cI,true⟩:aT)) gu han (pm 7 [0,1,2,3,4,5,6])) fun _ _=>?_
 refine ng (xF ham Q gn (pm 7 [0,1,2,3,4,5,6])) fun _ hao=>?_
 refine ng (iy hao (rQ Q gn) (pm 6 [1,0,2,3,4,5])) fun _ _=>?_
 refine ng (bf.shut (p:=p0_) (m:=(⟨xc.cM,mput xc.ar (aC.at a1.ae xa) (⟨((mget xc.ar (aC.at a1.ae xa)).getD default).fe,((mget xc.ar (aC.at a1.ae xa)).getD default).cI,true⟩:aT)⟩:bf)) (gm.1,gm.2) hak (pm 5 [1,0,2,3,4])) fun _ _=>?_
 refine ns 4 [1,2,3,0] 0 ?_
 exact bk ja (ax (xa+1),max xb (ax ((((mget xc.ar (aC.at a1.ae xa)).getD default).cI)+1)),(⟨xc.cM,mput xc.ar (aC.at a1.ae xa) (⟨((mget xc.ar (aC.at a1.ae xa)).getD default).fe,((mget xc.ar (aC.at a1.ae xa)).getD default).cI,true⟩:aT)⟩:bf)) H
theorem iK.c {p0_:OV} (h:iK.f k a0 a1=some r):Tr prog 35 [eq p0_.1,agg (Event.enc a1)] [aH.O p0_ a0] (γ:=Unit) (fun _=>True) (fun g=>vI r.1) (fun g=>[aH.O p0_ r.2]):=by
 refine tf func35 h fun R0 F H=>?_
 refine wr 2 1<|Dv.box Q T Q cA nofun fun ba=>go 1<|wr 5 8<|gl 3 [0]<|vg (aH.iM 1 Q) fun ga haa=>?_
 refine el H fun ta hac H=>cx 3 [0,1,2] (cL 88) (Tr.jY (aO.c hac (b0_:=ga.1) (v0_0:=ga.2)) (.cons (iD haa) (.cons cG .nil))) nofun fun va _=>?_
 refine go 1<|WP.seq<|wr 4 4<|gl 2 [3]<|el H fun tc had H=>cx 4 [2,0,1,3] (cL 89) (dag_Dag_Add.c had (p0_:=va)) nofun fun _ _=>?_
 refine go 1<|so<|ce H ?_ ?_ <;> intro H
 ·
  refine so<|wg (zw (pm 4 [2,0,1,3])) fun _ _=>?_
  refine wg (aH.shut (p:=p0_) (m:=(⟨vK a0.bx a1.aa tc.2⟩:aH)) (ga.1,ga.2) haa (pm 3 [1,0,2])) fun _ _=>?_
  cases H.out; exact et () 2 [1,0] 1
 refine WP.skip<|WP.seq<|wg (CI 2 Q) fun za hae=>?_
 refine dg mX 8 128<|go 1<|Dv.bZ haa Q T Q<|fp haa Q T Q IF<|gl 4 [3,4]<|Dv.mup (vp:=fun p:OV=>eq p.1) (jj:=0) va Q T Q Q Q Q CW (dR U9) (fun _=>fh kr)<|.fin<|so<|wg (HJ bf.nn hae (pm 5 [0,1,2,3,4])) fun _ _=>?_
 refine wg (aH.shut (p:=p0_) (m:=(⟨mput a0.bx a1.aa tc.2⟩:aH)) (ga.1,ga.2) haa (pm 3 [1,0,2])) fun _ _=>?_
 cases H.out; exact et () 2 [1,0] 1
theorem gZ.c (h:gZ.f k a0 a1=some r):Pt prog 77 [agg (bq.enc a0),vS a1] (agg (aF.enc r)):=by
 refine pf func77 h fun R0 F H=>?_
 refine wr 2 3<|Dv.box Q T Q cA nofun fun ba=>al Q T ow nofun fun bc=>.fin<|WP.kN H id (fun pa=>[(1,vS a1),(4,bO bc)]) (fun pa=>[ay bc 113 [vS eE,dY],ay ba 33 (bq.enc a0)]++F) (fun pa H=>?_) (fun H=>?_)
 ·
  refine wr 3 4<|go 1<|Dv.lx (qs:=[vS a1,dY]) (css:=[[vS a1]]) Q T lI FC BB Q ⟨(cells_one (aj Q)),T⟩ Q Q<|sy 0 ?_
  refine .fin ?_
  cases H.out; exact r2 i2 Q (.cons (oS (aw Q lI Q nw (ab 0 Q) Q) (nZ (.cons cG (.cons dD .nil)))) .nil)
 refine so<|WP.block<|ws 2 [0,1] 0 ?_
 refine lp (fun j_ (pc:Int)=>gZ.l0 k a0 a1 j_ pc) 0 H (fun pc=>[(1,vS a1),(2,bO ba),(4,bO bc),(5,vI pc)]) (fun pc=>[ay bc 113 [vS eE,dY],ay ba 33 (bq.enc a0)]++F) ?_
 rintro j_ xa H
 rcases j_ with _ | ja
 ·
  exact (aZ.no H).elim
 try dsimp only at H
 rw [gZ.l0] at H
 refine WP.seq<|wr 5 0<|gl 3 [1]<|Dv.jN Q T Q yj<|go 1<|ce H ?_ ?_ <;> intro H
 rotate_left
 ·
  refine WP.exit ?_
  have H:=H.out
  exact jn (xa,decide (xa<(a0.fD.length:Int))) H
 refine WP.skip<|WP.seq<|WP.block<|wr 8 0<|gl 3 [1]<|gr H fun ga H=>Dv.kg Q T Q Q yj lI nw ga.1 ga.2<|fr Q T Q tF Q<|lM Q T Q o9 Q<|go 2<|ce H ?_ ?_ <;> intro H
 rotate_left
 ·
  exact WP.skip<|rg 3 0<|go 3<|bk ja (ax (xa+1)) H
 refine wr 6 32<|gl 3 [1]<|gr H fun gb H=>Dv.kg Q T Q Q yj lI nw gb.1 gb.2<|oz Q T Q Fq Q<|sy 0 ?_
 refine .fin ?_
 have H:=H.fW
 cases H.out; exact r2 i2 Q (.cons (aw Q lI Q nw (ab 0 Q) Q) .nil)
theorem eN.c (h:eN.f k a0=some r):Pt prog 214 [vS a0] (vI r):=by
 refine pf func214 h fun R0 F H=>?_
 refine so<|WP.kN H id (fun pa=>[]) (fun pa=>F) (fun pa H=>?_) (fun H=>?_)
 ·
  refine sp ?_
  cases H.out; exact ek 0
 refine so<|WP.block<|ws 0 [] 0 ?_
 refine lp (fun j_ (pc:Int)=>eN.l0 k a0 j_ pc) 0 H (fun pc=>[(0,vS a0),(3,vI pc)]) (fun pc=>F) ?_
 rintro j_ xa H
 rcases j_ with _ | ja
 ·
  exact (aZ.no H).elim
 try dsimp only at H
 rw [eN.l0] at H
 refine WP.seq<|wr 4 0<|go 2<|Dv.lens Q T Q U9<|go 1<|ce H ?_ ?_ <;> intro H
 rotate_left
 ·
  refine WP.exit ?_
  have H:=H.out
  exact jn (xa,decide (xa<(a0.size:Int))) H
 refine WP.skip<|WP.seq<|WP.block<|wr 4 0<|go 2<|gr H fun ga H=>Dv.qu Q T Q Q U9 ga.1 ga.2<|go 1<|ce H ?_ ?_ <;> intro H
 rotate_left
 ·
  exact WP.skip<|rg 3 0<|go 3<|bk ja (ax (xa+1)) H
 refine sp ?_
 have H:=H.fW
 cases H.out; exact ek 0
theorem mj.c (h:mj.f a0=some r):Pt prog 217 [eq (.int .u8 a0)] (vB r):=by
 refine pf func217 h fun R0 F H=>?_
 refine so<|wr 15 0<|gp 3 ?_
 cases cc:decide (97≤a0)
 ·
  have H:=H.cf cc
  refine gp 7 ?_
  cases cg:decide (48≤a0)
  ·
   have H:=H.cf cg
   refine gq 5 ?_
   cases H.out; exact ek 0
  have H:=H.ct cg
  refine gq 5 ?_
  cases H.out; exact ek 0
 have H:=H.ct cc
 refine gp 4 ?_
 cases ci:decide (a0≤122)
 rotate_left
 ·
  have H:=H.ct ci
  refine gq 8 ?_
  cases H.out; exact ek 0
 have H:=H.cf ci
 refine gp 3 ?_
 cases cj:decide (48≤a0)
 ·
  have H:=H.cf cj
  refine gq 5 ?_
  cases H.out; exact ek 0
 have H:=H.ct cj
 refine gq 5 ?_
 cases H.out; exact ek 0
theorem eZ.c (h:eZ.f k a0=some r):Pt prog 215 [vS a0] (vB r):=by
 refine pf func215 h fun R0 F H=>?_
 refine so<|WP.kN H id (fun pa=>[(0,vS a0)]) (fun pa=>F) (fun pa H=>?_) (fun H=>?_)
 ·
  refine wr 9 0<|go 1<|Dv.lens Q T Q U9<|gp 2 ?_
  cases cc:decide (0<(a0.size:Int))
  ·
   have H:=H.cf cc
   refine gq 5 ?_
   cases H.out; exact ek 0
  have H:=H.ct cc
  refine go 1<|Dv.lens Q (gg Q) Q U9<|gq 3 ?_
  cases H.out; exact ek 0
 refine so<|WP.block<|ws 0 [] 0 ?_
 refine lp (fun j_ (pc:Int)=>eZ.l0 k a0 j_ pc) 0 H (fun pc=>[(0,vS a0),(3,vI pc)]) (fun pc=>F) ?_
 rintro j_ xa H
 rcases j_ with _ | ja
 ·
  exact (aZ.no H).elim
 try dsimp only at H
 rw [eZ.l0] at H
 refine WP.seq<|wr 4 0<|go 2<|Dv.lens Q T Q U9<|go 1<|ce H ?_ ?_ <;> intro H
 rotate_left
 ·
  refine WP.exit ?_
  have H:=H.out
  exact jn (xa,decide (xa<(a0.size:Int))) H
 refine WP.skip<|WP.seq<|WP.block<|wr 5 0<|go 2<|gr H fun ga H=>Dv.qu Q T Q Q U9 ga.1 ga.2<|el H fun ta haa H=>cl Q (cL 217) Q (mj.c haa)<|go 1<|wr 20 0<|gp 3 ?_
 cases cg:!ta
 ·
  have H:=H.cf cg
  refine go 17<|WP.cond Q nofun (fun _=>?_)
  exact WP.skip<|rg 3 0<|go 3<|bk ja (ax (xa+1)) H
 have H:=H.ct cg
 refine go 2<|gr H fun gb H=>Dv.qu Q (gg Q) Q Q U9 gb.1 gb.2<|gp 3 ?_
 cases ci:((bt a0 xa) != 46)
 ·
  have H:=H.cf ci
  refine go 11<|WP.cond Q nofun (fun _=>?_)
  exact WP.skip<|rg 3 0<|go 3<|bk ja (ax (xa+1)) H
 have H:=H.ct ci
 refine go 2<|gr H fun gi H=>Dv.qu Q (gg Q) Q Q U9 gi.1 gi.2<|gp 3 ?_
 cases cj:((bt a0 xa) != 45)
 ·
  have H:=H.cf cj
  refine go 5<|WP.cond Q nofun (fun _=>?_)
  exact WP.skip<|rg 3 0<|go 3<|bk ja (ax (xa+1)) H
 have H:=H.ct cj
 refine go 2<|gr H fun gj H=>Dv.qu Q (gg Q) Q Q U9 gj.1 gj.2<|go 2<|ce H ?_ ?_ <;> intro H
 rotate_left
 ·
  exact WP.skip<|rg 3 0<|go 3<|bk ja (ax (xa+1)) H
 refine sp ?_
 have H:=H.fW
 cases H.out; exact ek 0
theorem dh.c (h:dh.f k a0=some r):Pt prog 216 [vS a0] (vB r):=by
 refine pf func216 h fun R0 F H=>?_
 refine so<|WP.kN H id (fun pa=>[(0,vS a0)]) (fun pa=>F) (fun pa H=>?_) (fun H=>?_)
 ·
  refine wr 9 0<|go 1<|Dv.lens Q T Q U9<|gp 2 ?_
  cases cc:decide (0<(a0.size:Int))
  ·
   have H:=H.cf cc
   refine gq 5 ?_
   cases H.out; exact ek 0
  have H:=H.ct cc
  refine go 1<|Dv.lens Q (gg Q) Q U9<|gq 3 ?_
  cases H.out; exact ek 0
 refine so<|WP.block<|ws 0 [] 0 ?_
 refine lp (fun j_ (pc:Int)=>dh.l0 k a0 j_ pc) 0 H (fun pc=>[(0,vS a0),(3,vI pc)]) (fun pc=>F) ?_
 rintro j_ xa H
 rcases j_ with _ | ja
 ·
  exact (aZ.no H).elim
 try dsimp only at H
 rw [dh.l0] at H
 refine WP.seq<|wr 4 0<|go 2<|Dv.lens Q T Q U9<|go 1<|ce H ?_ ?_ <;> intro H
 rotate_left
 ·
  refine WP.exit ?_
  have H:=H.out
  exact jn (xa,decide (xa<(a0.size:Int))) H
 refine WP.skip<|WP.seq<|WP.block<|wr 5 0<|go 2<|gr H fun ga H=>Dv.qu Q T Q Q U9 ga.1 ga.2<|el H fun ta haa H=>cl Q (cL 217) Q (mj.c haa)<|go 1<|wr 22 0<|gp 3 ?_
 cases cg:decide (0<xa)
 ·
  have H:=H.cf cg
  refine go 19<|wr 6 0<|gp 3 ?_
  cases ci:!ta
  ·
   have H:=H.cf ci
   refine go 3<|WP.cond Q nofun (fun _=>?_)
   exact WP.skip<|rg 3 0<|go 3<|bk ja (ax (xa+1)) H
  have H:=H.ct ci
  refine go 3<|WP.cond Q (fun _=>?_) nofun
  refine sp ?_
  have H:=H.fW
  cases H.out; exact ek 0
 have H:=H.ct cg
 refine go 2<|Dv.lens Q (gg Q) Q U9<|gp 4 ?_
 cases cj:decide (xa<(ax ((a0.size:Int)-1)))
 ·
  have H:=H.cf cj
  refine go 12<|wr 6 0<|gp 3 ?_
  cases ck:!ta
  ·
   have H:=H.cf ck
   refine go 3<|WP.cond Q nofun (fun _=>?_)
   exact WP.skip<|rg 3 0<|go 3<|bk ja (ax (xa+1)) H
  have H:=H.ct ck
  refine go 3<|WP.cond Q (fun _=>?_) nofun
  refine sp ?_
  have H:=H.fW
  cases H.out; exact ek 0
 have H:=H.ct cj
 refine go 2<|gr H fun gb H=>Dv.qu Q (gg Q) Q Q U9 gb.1 gb.2<|gp 2 ?_
 cases cn:((bt a0 xa)==46)
 rotate_left
 ·
  have H:=H.ct cn
  refine go 7<|wr 6 0<|gp 3 ?_
  cases co:!ta
  ·
   have H:=H.cf co
   refine go 3<|WP.cond Q nofun (fun _=>?_)
   exact WP.skip<|rg 3 0<|go 3<|bk ja (ax (xa+1)) H
  have H:=H.ct co
  refine go 3<|WP.cond Q nofun (fun _=>?_)
  exact WP.skip<|rg 3 0<|go 3<|bk ja (ax (xa+1)) H
 have H:=H.cf cn
 refine go 2<|gr H fun gi H=>Dv.qu Q (gg Q) Q Q U9 gi.1 gi.2<|go 4<|wr 6 0<|gp 3 ?_
 cases cp:!ta
 ·
  have H:=H.cf cp
  refine go 3<|WP.cond Q nofun (fun _=>?_)
  exact WP.skip<|rg 3 0<|go 3<|bk ja (ax (xa+1)) H
 have H:=H.ct cp
 refine go 3<|ce H ?_ ?_ <;> intro H
 rotate_left
 ·
  exact WP.skip<|rg 3 0<|go 3<|bk ja (ax (xa+1)) H
 refine sp ?_
 have H:=H.fW
 cases H.out; exact ek 0
theorem hJ.c (h:hJ.f k a0 a1=some r):Pt prog 149 [vS a0,eq (.int .u8 a1)] (vB r):=by
 refine pf func149 h fun R0 F H=>?_
 refine so<|wr 3 0<|go 1<|el H fun ta haa H=>cl Q (cL 214) Q (eN.c haa)<|go 1<|WP.seq<|wr 8 0<|gp 3 ?_
 cases cc:decide (ta<1)
 rotate_left
 ·
  have H:=H.ct cc
  refine go 5<|WP.cond Q (fun _=>?_) nofun
  refine sp ?_
  cases H.out; exact ek 0
 have H:=H.cf cc
 refine go 1<|gr H fun ga H=>Dv.qu Q (gg Q) Q Q U9 ga.1 ga.2<|go 3<|ce H ?_ ?_ <;> intro H
 ·
  refine sp ?_
  cases H.out; exact ek 0
 refine WP.skip<|wr 5 0<|go 2<|gr H fun gb H=>Dv.HO Q T Q U9 (fa Q gb.1) (fa Q gb.2.1) gb.2.2.1 gb.2.2.2<|el H fun tc hac H=>cl Q (cL 215) Q (eZ.c hac)<|go 1<|wr 6 0<|go 3<|gr H fun gi H=>Dv.HO Q T Q U9 (fa Q gi.1) dG gi.2.1 gi.2.2<|el H fun te had H=>cl Q (cL 216) Q (dh.c had)<|go 1<|wr 5 0<|gp 2 ?_
 cases cg:tc
 ·
  have H:=H.cf cg
  refine gq 3 ?_
  cases H.out; exact ek 0
 have H:=H.ct cg
 refine gq 3 ?_
 cases H.out; exact ek 0
theorem bW.c (h:bW.f k a0=some r):Pt prog 150 [vS a0] (vB r):=by
 refine pf func150 h fun R0 F H=>?_
 refine so<|WP.seq<|wr 13 0<|go 1<|Dv.lens Q T Q U9<|gp 2 ?_
 cases cc:decide ((a0.size:Int)<2)
 rotate_left
 ·
  have H:=H.ct cc
  refine go 9<|WP.cond Q (fun _=>?_) nofun
  refine sp ?_
  cases H.out; exact ek 0
 have H:=H.cf cc
 refine go 1<|Dv.lens Q (gg Q) Q U9<|gp 3 ?_
 cases cg:decide (17<(a0.size:Int))
 rotate_left
 ·
  have H:=H.ct cg
  refine go 4<|WP.cond Q (fun _=>?_) nofun
  refine sp ?_
  cases H.out; exact ek 0
 have H:=H.cf cg
 refine go 1<|gr H fun ga H=>Dv.qu Q (gg Q) Q Q U9 ga.1 ga.2<|go 2<|ce H ?_ ?_ <;> intro H
 ·
  refine sp ?_
  cases H.out; exact ek 0
 refine WP.skip<|WP.kN H id (fun pa=>[]) (fun pa=>F) (fun pa H=>?_) (fun H=>?_)
 ·
  refine sp ?_
  cases H.out; exact ek 0
 refine so<|WP.block<|ws 0 [] 0 ?_
 refine lp (fun j_ (pc:Int)=>bW.l0 k a0 j_ pc) 1 H (fun pc=>[(0,vS a0),(3,vI pc)]) (fun pc=>F) ?_
 rintro j_ xa H
 rcases j_ with _ | ja
 ·
  exact (aZ.no H).elim
 try dsimp only at H
 rw [bW.l0] at H
 refine WP.seq<|wr 4 0<|go 2<|Dv.lens Q T Q U9<|go 1<|ce H ?_ ?_ <;> intro H
 rotate_left
 ·
  refine WP.exit ?_
  have H:=H.out
  exact jn (xa,decide (xa<(a0.size:Int))) H
 refine WP.skip<|WP.seq<|WP.block<|wr 5 0<|go 2<|gr H fun gb H=>Dv.qu Q T Q Q U9 gb.1 gb.2<|el H fun ta haa H=>cl Q (cL 217) Q (mj.c haa)<|go 1<|wr 11 0<|go 2<|gr H fun gi H=>Dv.qu Q T Q Q U9 gi.1 gi.2<|gp 2 ?_
 cases ci:decide (65≤(bt a0 xa))
 ·
  have H:=H.cf ci
  refine go 6<|wr 18 0<|gp 3 ?_
  cases cj:!ta
  ·
   have H:=H.cf cj
   refine go 15<|WP.cond Q nofun (fun _=>?_)
   exact WP.skip<|rg 3 0<|go 3<|bk ja (ax (xa+1)) H
  have H:=H.ct cj
  refine go 6<|gr H fun gj H=>Dv.qu Q (gg Q) Q Q U9 gj.1 gj.2<|gp 3 ?_
  cases ck:((bt a0 xa) != 45)
  ·
   have H:=H.cf ck
   refine go 5<|WP.cond Q nofun (fun _=>?_)
   exact WP.skip<|rg 3 0<|go 3<|bk ja (ax (xa+1)) H
  have H:=H.ct ck
  refine go 2<|gr H fun gk H=>Dv.qu Q (gg Q) Q Q U9 gk.1 gk.2<|go 2<|ce H ?_ ?_ <;> intro H
  rotate_left
  ·
   exact WP.skip<|rg 3 0<|go 3<|bk ja (ax (xa+1)) H
  refine sp ?_
  have H:=H.fW
  cases H.out; exact ek 0
 have H:=H.ct ci
 refine go 2<|gr H fun gm H=>Dv.qu Q (gg Q) Q Q U9 gm.1 gm.2<|go 3<|wr 18 0<|gp 3 ?_
 cases cn:!ta
 ·
  have H:=H.cf cn
  refine go 15<|WP.cond Q nofun (fun _=>?_)
  exact WP.skip<|rg 3 0<|go 3<|bk ja (ax (xa+1)) H
 have H:=H.ct cn
 refine gp 4 ?_
 cases co:!(decide ((bt a0 xa)≤90))
 ·
  have H:=H.cf co
  refine go 11<|WP.cond Q nofun (fun _=>?_)
  exact WP.skip<|rg 3 0<|go 3<|bk ja (ax (xa+1)) H
 have H:=H.ct co
 refine go 2<|gr H fun gn H=>Dv.qu Q (gg Q) Q Q U9 gn.1 gn.2<|gp 3 ?_
 cases cp:((bt a0 xa) != 45)
 ·
  have H:=H.cf cp
  refine go 5<|WP.cond Q nofun (fun _=>?_)
  exact WP.skip<|rg 3 0<|go 3<|bk ja (ax (xa+1)) H
 have H:=H.ct cp
 refine go 2<|gr H fun gu H=>Dv.qu Q (gg Q) Q Q U9 gu.1 gu.2<|go 2<|ce H ?_ ?_ <;> intro H
 rotate_left
 ·
  exact WP.skip<|rg 3 0<|go 3<|bk ja (ax (xa+1)) H
 refine sp ?_
 have H:=H.fW
 cases H.out; exact ek 0
theorem fZ.c (h:fZ.f k a0=some r):Pt prog 147 [agg (Event.enc a0)] (vB r):=by
 refine pf func147 h fun R0 F H=>?_
 refine wr 2 1<|Dv.box Q T Q cA nofun fun ba=>go 1<|wr 4 0<|gl 2 [0]<|el H fun ta haa H=>cl Q (cL 150) Q (bW.c haa)<|go 1<|wr 4 0<|gl 2 [0]<|el H fun tc hac H=>cl Q (cL 149) Q (hJ.c hac)<|go 1<|wr 4 0<|gl 2 [0]<|el H fun te had H=>cl Q (cL 149) Q (hJ.c had)<|go 1<|WP.seq<|wr 26 0<|gp 3 ?_
 cases cc:!ta
 rotate_left
 ·
  have H:=H.ct cc
  refine go 23<|WP.cond Q (fun _=>?_) nofun
  refine sp ?_
  cases H.out; exact ek 1
 have H:=H.cf cc
 refine gp 4 ?_
 cases cg:!tc
 rotate_left
 ·
  have H:=H.ct cg
  refine go 19<|WP.cond Q (fun _=>?_) nofun
  refine sp ?_
  cases H.out; exact ek 1
 have H:=H.cf cg
 refine gp 4 ?_
 cases ci:!te
 rotate_left
 ·
  have H:=H.ct ci
  refine go 15<|WP.cond Q (fun _=>?_) nofun
  refine sp ?_
  cases H.out; exact ek 1
 have H:=H.cf ci
 refine gl 2 [0]<|Dv.jN Q (gg Q) Q eh<|gp 3 ?_
 cases cj:decide (4<(a0.ae.length:Int))
 rotate_left
 ·
  have H:=H.ct cj
  refine go 9<|WP.cond Q (fun _=>?_) nofun
  refine sp ?_
  cases H.out; exact ek 1
 have H:=H.cf cj
 refine kW 5 [0] ?_
 cases ck:decide (a0.bL<0)
 rotate_left
 ·
  have H:=H.ct ck
  refine go 4<|WP.cond Q (fun _=>?_) nofun
  refine sp ?_
  cases H.out; exact ek 1
 have H:=H.cf ck
 refine gl 4 [0]<|ce H ?_ ?_ <;> intro H
 ·
  refine sp ?_
  cases H.out; exact ek 1
 refine WP.skip<|WP.kN H id (fun pa=>[(1,bO ba)]) (fun pa=>[ay ba 110 (Event.enc a0)]++F) (fun pa H=>?_) (fun H=>?_)
 rotate_left
 ·
  refine sf [0]<|ce H ?_ ?_ <;> intro H
  rotate_left
  ·
   refine WP.skip ?_
   have H:=H.out
   exact jn () H
  refine wr 4 0<|gl 2 [0]<|el H fun tg hae H=>cl Q (cL 150) Q (bW.c hae)<|go 1<|wr 14 0<|gp 3 ?_
  cases cn:!tg
  rotate_left
  ·
   have H:=H.ct cn
   refine go 11<|WP.cond Q (fun _=>?_) nofun
   refine sp ?_
   have H:=H.fW
   cases H.out; exact ek 1
  have H:=H.cf cn
  refine kW 7 [0,0] ?_
  cases co:decide (a0.ag=a0.b9)
  rotate_left
  ·
   have H:=H.ct co
   refine go 4<|WP.cond Q (fun _=>?_) nofun
   refine sp ?_
   have H:=H.fW
   cases H.out; exact ek 1
  have H:=H.cf co
  refine gl 4 [0]<|ce H ?_ ?_ <;> intro H
  rotate_left
  ·
   refine WP.skip ?_
   have H:=H.out
   exact jn () H
  refine sp ?_
  have H:=H.fW
  cases H.out; exact ek 1
 refine WP.kN H id (fun pc=>[]) (fun pc=>[ay ba 110 (Event.enc a0)]++F) (fun pc H=>?_) (fun H=>?_)
 ·
  refine sp ?_
  cases H.out; exact ek 1
 refine so<|WP.block<|ws 1 [0] 0 ?_
 refine lp (fun j_ (pe:Int)=>fZ.l0 k a0 j_ pe) 0 H (fun pe=>[(1,bO ba),(7,vI pe)]) (fun pe=>[ay ba 110 (Event.enc a0)]++F) ?_
 rintro j_ xa H
 rcases j_ with _ | ja
 ·
  exact (aZ.no H).elim
 try dsimp only at H
 rw [fZ.l0] at H
 refine WP.seq<|wr 5 0<|gl 3 [0]<|Dv.jN Q T Q eh<|go 1<|ce H ?_ ?_ <;> intro H
 rotate_left
 ·
  refine WP.exit ?_
  have H:=H.out
  exact jn (xa,decide (xa<(a0.ae.length:Int))) H
 refine WP.skip<|WP.seq<|WP.block<|wr 7 0<|gl 3 [0]<|gr H fun ga H=>Dv.kg Q T Q Q eh U9 c9 ga.1 ga.2<|lM Q T Q o9 Q<|el H fun tj haf H=>cl Q (cL 150) Q (bW.c haf)<|go 1<|WP.seq<|wd mX 12 0<|gp 3 ?_
 cases cp:!tj
 rotate_left
 ·
  have H:=H.ct cp
  refine go 9<|WP.cond Q (fun _=>?_) nofun
  refine sp ?_
  have H:=H.fW
  cases H.out; exact ek 1
 have H:=H.cf cp
 refine gl 3 [0]<|gr H fun gb H=>Dv.kg Q (gg Q) Q Q eh U9 c9 gb.1 gb.2<|lM Q (gg Q) Q o9 Q<|gl 4 [0]<|ce H ?_ ?_ <;> intro H
 ·
  refine sp ?_
  have H:=H.fW
  cases H.out; exact ek 1
 refine WP.skip<|wd mX 17 0<|gp 3 ?_
 cases cq:decide (0<xa)
 ·
  have H:=H.cf cq
  refine go 14<|WP.cond Q nofun (fun _=>?_)
  exact WP.skip<|rg 3 0<|go 3<|bk ja (ax (xa+1)) H
 have H:=H.ct cq
 refine gl 4 [0]<|Dv.IH Q (gg Q) Q Q<|gr H fun gi H=>Dv.kg Q (gg Q) Q Q eh U9 c9 gi.1 gi.2<|lM Q (gg Q) Q o9 Q<|gl 3 [0]<|gr H fun gj H=>Dv.kg Q (gg Q) Q Q eh U9 c9 gj.1 gj.2<|lM Q (gg Q) Q o9 Q<|go 2<|ce H ?_ ?_ <;> intro H
 rotate_left
 ·
  exact WP.skip<|rg 3 0<|go 3<|bk ja (ax (xa+1)) H
 refine sp ?_
 have H:=H.fW
 cases H.out; exact ek 1
theorem eC.c (h:eC.f k a0 a1=some r):Pt prog 148 [agg (aF.enc a0),vS a1] (vI r):=by
 refine pf func148 h fun R0 F H=>?_
 refine wr 2 1<|Dv.box Q T Q cA nofun fun ba=>go 1<|WP.kN H id (fun pa=>[]) (fun pa=>[ay ba 113 (aF.enc a0)]++F) (fun pa H=>?_) (fun H=>?_)
 ·
  refine sp ?_
  cases H.out; exact ek 1
 refine so<|WP.block<|ws 1 [0] 0 ?_
 refine lp (fun j_ (pc:Int)=>eC.l0 k a0 a1 j_ pc) 0 H (fun pc=>[(1,vS a1),(2,bO ba),(5,vI pc)]) (fun pc=>[ay ba 113 (aF.enc a0)]++F) ?_
 rintro j_ xa H
 rcases j_ with _ | ja
 ·
  exact (aZ.no H).elim
 try dsimp only at H
 rw [eC.l0] at H
 refine WP.seq<|wr 5 0<|gl 3 [0]<|Dv.jN Q T Q py<|go 1<|ce H ?_ ?_ <;> intro H
 rotate_left
 ·
  refine WP.exit ?_
  have H:=H.out
  exact jn (xa,decide (xa<(a0.fL.length:Int))) H
 refine WP.skip<|WP.seq<|WP.block<|wr 8 0<|gl 3 [0]<|gr H fun ga H=>Dv.kg Q T Q Q py km mK ga.1 ga.2<|fr Q T Q ye Q<|lM Q T Q o9 Q<|go 2<|ce H ?_ ?_ <;> intro H
 rotate_left
 ·
  exact WP.skip<|rg 3 0<|go 3<|bk ja (ax (xa+1)) H
 refine sp ?_
 have H:=H.fW
 cases H.out; exact ek 1
theorem dP.c (h:dP.f k a0 a1=some r):Pt prog 91 [agg (aF.enc a0),agg (Event.enc a1)] (kR [agg (aF.enc r.1),vI r.2]):=by
 refine pf func91 h fun R0 F H=>?_
 refine wr 4 7<|Dv.box Q T Q cA nofun fun ba=>Dv.box Q T Q cA nofun fun bc=>al Q T ow nofun fun bd=>go 1<|wr 3 0<|gl 1 [1]<|el H fun ta haa H=>cl Q (cL 147) Q (fZ.c haa)<|go 1<|WP.seq<|wr 9 0<|gp 3 ?_
 cases cc:!ta
 rotate_left
 ·
  have H:=H.ct cc
  refine go 6<|WP.cond Q (fun _=>?_) nofun
  refine wr 3 2<|gl 1 [2]<|sy 0 ?_
  refine gq 1 ?_
  cases H.out; exact r3 i2 Q (.cons (aw Q lI Q nw (ab 0 Q) Q) (.cons (aG Q) .nil))
 have H:=H.cf cc
 refine gl 6 [1,2]<|ce H ?_ ?_ <;> intro H
 ·
  refine wr 3 2<|gl 1 [2]<|sy 0 ?_
  refine gq 1 ?_
  cases H.out; exact r3 i2 Q (.cons (aw Q lI Q nw (ab 0 Q) Q) (.cons (aG Q) .nil))
 refine WP.skip<|WP.seq<|wr 5 0<|gl 3 [2,1]<|el H fun tc hac H=>cl Q (cL 148) Q (eC.c hac)<|go 1<|ce H ?_ ?_ <;> intro H
 ·
  refine wr 3 2<|gl 1 [2]<|sy 0 ?_
  refine gq 1 ?_
  cases H.out; exact r3 i2 Q (.cons (aw Q lI Q nw (ab 0 Q) Q) (.cons (aG Q) .nil))
 refine WP.skip<|WP.kN H id (fun pa=>[(2,bO ba),(3,bO bc),(4,bO bd)]) (fun pa=>[ay bd 113 [vS eE,dY],ay bc 110 (Event.enc a1),ay ba 113 (aF.enc a0)]++F) (fun pa H=>?_) (fun H=>?_)
 rotate_left
 ·
  refine so<|WP.block<|ws 3 [0,1,2] 0 ?_
  refine lp (fun j_ (pc:Int)=>dP.l0 k a0 a1 j_ pc) 0 H (fun pc=>[(2,bO ba),(3,bO bc),(4,bO bd),(7,vI pc)]) (fun pc=>[ay bd 113 [vS eE,dY],ay bc 110 (Event.enc a1),ay ba 113 (aF.enc a0)]++F) ?_
  rintro j_ xa H
  rcases j_ with _ | ja
  ·
   exact (aZ.no H).elim
  try dsimp only at H
  rw [dP.l0] at H
  refine WP.seq<|wr 5 0<|gl 3 [1]<|Dv.jN Q T Q eh<|go 1<|ce H ?_ ?_ <;> intro H
  rotate_left
  ·
   refine WP.exit ?_
   have H:=H.out
   exact jn (xa,decide (xa<(a1.ae.length:Int))) H
  refine WP.skip<|WP.seq<|WP.block<|wd mX 8 0<|gl 4 [2,1]<|gr H fun ga H=>Dv.kg Q T Q Q eh U9 c9 ga.1 ga.2<|lM Q T Q o9 Q<|el H fun te had H=>cl Q (cL 148) Q (eC.c had)<|go 1<|ce H ?_ ?_ <;> intro H
  rotate_left
  ·
   exact WP.skip<|rg 3 0<|go 3<|bk ja (ax (xa+1)) H
  refine wr 3 2<|gl 1 [2]<|sy 0 ?_
  refine gq 1 ?_
  have H:=H.fW
  cases H.out; exact r3 i2 Q (.cons (aw Q lI Q nw (ab 0 Q) Q) (.cons (aG Q) .nil))
 refine WP.kN H id (fun pe=>[(2,bO ba),(3,bO bc),(4,bO bd)]) (fun pe=>[ay bd 113 [vS eE,dY],ay bc 110 (Event.enc a1),ay ba 113 (aF.enc a0)]++F) (fun pe H=>?_) (fun H=>?_)
 ·
  refine so<|wr 5 8<|gl 3 [2]<|vg (eX Event.K none) fun _ _=>?_
  refine gr H fun gb H=>ap Event.K 0 a0.fL bY py (.inr ⟨_,py⟩) uO gb nofun fun va=>?_
  refine go 1<|wd mX 9 160<|gl 4 [3,2]<|Dv.lit Event.K ([a1]:List Event) (css:=[Event.enc a1]) Q T py km mK Di Q dc dc Q ⟨(bn (Event.K.one _)),T⟩ Q Q Q<|gr H fun gi H=>Dv.F0 (Kd:=Event.K) (jj:=0) (ys:=([a1]:List Event)) (fun vb:OV=>[own Event.K vb.1 ((([]:List Event)++a0.fL)++([a1]:List Event)),ay bd 113 [vS eE,dY],ay bc 110 (Event.enc a1),ay ba 113 (aF.enc a0)]++F) Q T Q Q Q bY py (.inr ⟨_,py⟩) uO Q dc gi Q pD (fun vb=>?_)
  refine Dv.lx (qs:=[vS a0.aa,eq vb.1]) (css:=[[vS a0.aa],[eq vb.1]]) Q T lI FC BB Q ⟨(cells_one (aj Q)),⟨(cells_one bQ),T⟩⟩ Q Q<|sv 1 ?_
  refine go 1<|WP.gh (eF (E':=[(4,bO bd),(5,vI 0)]) (l':=[ay bd 113 [vS a0.aa,sl Event.K ((([]:List Event)++a0.fL)++([a1]:List Event))],ay bc 110 (Event.enc a1),ay ba 113 (aF.enc a0)]++F) 0 Q (ah Q ao (ah Q ao cT)) (bP (.cons (cJ (.cons ao (.cons dm .nil))) (.cons av (.cons av .nil))) fun _=>av)) (fun _ _=>?_)
  cases H.out; exact r3 i2 Q (.cons (aw Q lI Q nw (ab 0 Q) Q) (.cons (aG Q) .nil))
 refine sf [1]<|ce H ?_ ?_ <;> intro H
 rotate_left
 ·
  refine WP.skip ?_
  have H:=H.out
  exact jn () H
 refine wr 5 0<|gl 3 [2,1]<|el H fun tg hae H=>cl Q (cL 148) Q (eC.c hae)<|go 1<|WP.seq<|so<|ce H ?_ ?_ <;> intro H
 ·
  refine wr 3 2<|gl 1 [2]<|sy 0 ?_
  refine gq 1 ?_
  have H:=H.fW
  cases H.out; exact r3 i2 Q (.cons (aw Q lI Q nw (ab 0 Q) Q) (.cons (aG Q) .nil))
 refine WP.skip<|wr 16 0<|gl 3 [2]<|gr H fun gj H=>Dv.kg Q T Q Q py km mK gj.1 gj.2<|fr Q T Q xr Q<|lM Q T Q o9 Q<|gp 2 ?_
 cases cg:!decide (((Event.K.at a0.fL tg).ag)=eE)
 rotate_left
 ·
  have H:=H.ct cg
  refine go 8<|WP.cond Q (fun _=>?_) nofun
  refine wr 3 2<|gl 1 [2]<|sy 0 ?_
  refine gq 1 ?_
  have H:=H.fW
  cases H.out; exact r3 i2 Q (.cons (aw Q lI Q nw (ab 0 Q) Q) (.cons (aG Q) .nil))
 have H:=H.cf cg
 refine gl 3 [2]<|gr H fun gk H=>Dv.kg Q (gg Q) Q Q py km mK gk.1 gk.2<|fr Q (gg Q) Q yz Q<|lM Q (gg Q) Q Gz Q<|go 2<|ce H ?_ ?_ <;> intro H
 rotate_left
 ·
  refine WP.skip ?_
  have H:=H.out
  exact jn () H
 refine wr 3 2<|gl 1 [2]<|sy 0 ?_
 refine gq 1 ?_
 have H:=H.fW
 cases H.out; exact r3 i2 Q (.cons (aw Q lI Q nw (ab 0 Q) Q) (.cons (aG Q) .nil))
theorem er.c (h:er.f k a0 a1=some r):Pt prog 90 [agg (bq.enc a0),agg (Event.enc a1)] (kR [agg (bq.enc r.1),vI r.2]):=by
 refine pf func90 h fun R0 F H=>?_
 refine wr 4 7<|Dv.box Q T Q cA nofun fun ba=>Dv.box Q T Q cA nofun fun bc=>al Q T II nofun fun bd=>go 1<|wd mX 12 1536<|gl 3 [2,1]<|el H fun ta haa H=>cl Q (cL 77) Q (gZ.c haa)<|gl 1 [1]<|el H fun tc hac H=>cl Q (cL 91) Q (dP.c hac)<|go 1<|eD Q T Q Q<|eD Q T Q Q<|al Q T ow pD fun be=>sx 0 Q T Q Q cA sz113 Q Q Q pD ?_
 refine go 1<|WP.seq<|so<|ce H ?_ ?_ <;> intro H
 ·
  refine wr 4 4<|gl 2 [3]<|sy 1 ?_
  refine gq 1 ?_
  cases H.out; exact r4 i2 Q (.cons (aw Q JX Q c33 (ab 1 Q) Q) (.cons (aG Q) .nil))
 refine WP.skip<|so<|so<|WP.iQ H (fun qh:(Bool×Int×Bool×(List aF))×OV=>qh.1) (fun qh=>[(4,bO bd),(6,bO be),(8,eq qh.2.1),(9,vB qh.1.1)]) (fun qh=>[ay be 113 (aF.enc tc.1),ay bd 33 [dY],ay bc 110 (Event.enc a1),ay ba 33 (bq.enc a0),own aF.K qh.2.1 qh.1.2.2.2]++F) (fun qh H=>?_) (fun H=>?_)
 ·
  obtain ⟨pa,va⟩:=qh
  refine WP.seq<|so<|ce H ?_ ?_ <;> intro H
  rotate_left
  ·
   refine WP.skip<|wr 4 4<|go 1<|Dv.lx (qs:=[eq va.1]) (css:=[[eq va.1]]) Q T JX pl33 z33 Q ⟨(cells_one bQ),T⟩ Q Q<|sy 1 ?_
   refine go 1<|WP.gh (eF (E':=[(4,bO bd),(5,vI 0)]) (l':=[ay be 113 (aF.enc tc.1),ay bd 33 [sl aF.K pa.2.2.2],ay bc 110 (Event.enc a1),ay ba 33 (bq.enc a0)]++F) 4 Q (ah Q ao (ah Q ao cT)) (bP (.cons av (.cons (cJ (.cons dm .nil)) (.cons av (.cons av .nil)))) fun _=>av)) (fun _ _=>?_)
   cases H.out; exact r4 i2 Q (.cons (aw Q JX Q c33 (ab 1 Q) Q) (.cons (aG Q) .nil))
  refine rg 5 8<|gl 2 [0]<|Dv.lit aF.K ([tc.1]:List aF) (css:=[aF.enc tc.1]) Q T yj lI nw BB Q dc dc Q ⟨(bn (aF.K.one _)),T⟩ Q Q Q<|gr H fun ga H=>ap aF.K 4 ([tc.1]:List aF) bY yj (.inr ⟨_,yj⟩) Bp ga nofun fun vb=>?_
  refine go 1<|wr 4 4<|go 1<|Dv.lx (qs:=[eq vb.1]) (css:=[[eq vb.1]]) Q T JX pl33 z33 Q ⟨(cells_one bQ),T⟩ Q Q<|sy 1 ?_
  refine go 1<|WP.gh (eF (E':=[(4,bO bd),(5,vI 0)]) (l':=[ay be 113 (aF.enc tc.1),ay bd 33 [sl aF.K (pa.2.2.2++([tc.1]:List aF))],ay bc 110 (Event.enc a1),ay ba 33 (bq.enc a0)]++F) 4 Q (ah Q ao (ah Q ao cT)) (bP (.cons av (.cons (cJ (.cons dm .nil)) (.cons av (.cons av .nil)))) fun _=>av)) (fun _ _=>?_)
  cases H.out; exact r4 i2 Q (.cons (aw Q JX Q c33 (ab 1 Q) Q) (.cons (aG Q) .nil))
 refine so<|WP.block<|wg (eX aF.K none) fun _ _=>?_
 refine ws 5 [1,2,3,4,0] 0 ?_
 refine lp (fun j_ (pc:Bool×Int×(List aF)×OV)=>er.l0 k a0 a1 tc j_ pc.1 pc.2.1 pc.2.2.1) (false,0,([]:List aF),l6) H (fun pc=>[(2,bO ba),(3,bO bc),(4,bO bd),(6,bO be),(8,eq pc.2.2.2.1),(9,vB pc.1),(10,vI pc.2.1)]) (fun pc=>[ay be 113 (aF.enc tc.1),ay bd 33 [dY],ay bc 110 (Event.enc a1),ay ba 33 (bq.enc a0),own aF.K pc.2.2.2.1 pc.2.2.1]++F) ?_
 rintro j_ ⟨xa,xb,xc,vd⟩ H
 rcases j_ with _ | ja
 ·
  exact (aZ.no H).elim
 try dsimp only at H
 rw [er.l0] at H
 refine WP.seq<|wr 5 0<|gl 3 [3]<|Dv.jN Q T Q yj<|go 1<|ce H ?_ ?_ <;> intro H
 rotate_left
 ·
  refine WP.exit ?_
  have H:=H.out
  exact jn ((xa,xb,decide (xb<(a0.fD.length:Int)),xc),vd) H
 refine WP.skip<|WP.seq<|WP.block<|WP.iQ H (fun qi:(Bool×Bool×(List aF))×OV=>qi.1) (fun qi=>[(2,bO ba),(3,bO bc),(4,bO bd),(6,bO be),(8,eq qi.2.1),(9,vB qi.1.1),(10,vI xb)]) (fun qi=>[ay be 113 (aF.enc tc.1),ay bd 33 [dY],ay bc 110 (Event.enc a1),ay ba 33 (bq.enc a0),own aF.K qi.2.1 qi.1.2.2]++F) (fun qi H=>?_) (fun H=>?_)
 ·
  obtain ⟨pe,ve⟩:=qi
  refine wd mX 9 0<|gl 3 [3]<|gr H fun gb H=>Dv.kg Q T Q Q yj lI nw gb.1 gb.2<|fr Q T Q tF Q<|lM Q T Q o9 Q<|gl 3 [2]<|ce H ?_ ?_ <;> intro H
  rotate_left
  ·
   exact WP.skip<|rg 3 0<|go 3<|bk ja (pe.1,ax (xb+1),pe.2.2,ve) H
  refine rg 9 128<|gl 4 [3]<|gr H fun gi H=>Dv.kg Q T Q Q yj lI nw gi.1 gi.2<|oz Q T Q Fq Q<|Dv.lit aF.K ([aF.K.at a0.fD xb]:List aF) (css:=[aF.enc (aF.K.at a0.fD xb)]) Q T yj lI nw BB Q dc dc Q ⟨(bn (aF.K.one _)),T⟩ Q Q Q<|gr H fun gj H=>ap aF.K 4 ([aF.K.at a0.fD xb]:List aF) bY yj (.inr ⟨_,yj⟩) Bp gj nofun fun vh=>?_
  exact go 1<|rg 3 0<|go 3<|bk ja (pe.1,ax (xb+1),pe.2.2++([aF.K.at a0.fD xb]:List aF),vh) H
 refine wd mX 13 0<|gp 3 ?_
 cases cc:!xa
 ·
  have H:=H.cf cc
  refine go 10<|WP.cond Q nofun (fun _=>?_)
  refine WP.skip ?_
  have H:=H.out
  exact jn ((xa,false,xc),vd) H
 have H:=H.ct cc
 refine gl 5 [2,3]<|gr H fun gk H=>Dv.kg Q (gg Q) Q Q yj lI nw gk.1 gk.2<|fr Q (gg Q) Q tF Q<|lM Q (gg Q) Q o9 Q<|go 2<|ce H ?_ ?_ <;> intro H
 rotate_left
 ·
  refine WP.skip ?_
  have H:=H.out
  exact jn ((xa,!dH ((aF.K.at a0.fD xb).aa) a1.aa,xc),vd) H
 refine wr 5 8<|gl 2 [0]<|Dv.lit aF.K ([tc.1]:List aF) (css:=[aF.enc tc.1]) Q T yj lI nw BB Q dc dc Q ⟨(bn (aF.K.one _)),T⟩ Q Q Q<|gr H fun gm H=>ap aF.K 4 ([tc.1]:List aF) bY yj (.inr ⟨_,yj⟩) Bp gm nofun fun vi=>?_
 refine go 1<|rg 1 0<|gq 1 ?_
 have H:=H.out
 exact jn ((true,!dH ((aF.K.at a0.fD xb).aa) a1.aa,xc++([tc.1]:List aF)),vi) H
theorem gJ.c (h:gJ.f k a0=some r):Pt prog 36 [sl Event.K a0] (agg (bq.enc r)):=by
 refine pf func36 h fun R0 F H=>?_
 refine wr 1 1<|al Q T II nofun fun ba=>.fin<|wr 1 1<|al Q T II nofun fun bc=>.fin<|WP.iQ H id (fun pa=>[(2,bO ba),(3,bO bc)]) (fun pa=>[ay bc 33 [sl aF.K pa.2.2],ay ba 33 [dY]]++F) (fun pa H=>?_) (fun H=>?_)
 ·
  refine wr 2 2<|gl 1 [0]<|sy 1 ?_
  refine .fin ?_
  cases H.out; exact r2 i2 Q (.cons (aw Q JX Q c33 (ab 1 Q) Q) .nil)
 refine so<|WP.block<|WP.gh (IX (E':=[(0,sl Event.K a0),(2,bO ba),(3,bO bc),(4,vI 0)]) (l':=[ay bc 33 [sl aF.K ([]:List aF)],ay ba 33 [dY]]++F) (lE Q cG (lE Q cG (lE Q cG (lE Q cG BZ)))) (bP (.cons (BH (.cons dD .nil)) (.cons yD .nil)) fun _=>yD)) (fun _ _=>?_)
 refine ws 2 [0,1] 0 ?_
 refine lp (fun j_ (pc:Int×(List aF))=>gJ.l0 k a0 j_ pc.1 pc.2) (0,([]:List aF)) H (fun pc=>[(0,sl Event.K a0),(2,bO ba),(3,bO bc),(4,vI pc.1)]) (fun pc=>[ay bc 33 [sl aF.K pc.2],ay ba 33 [dY]]++F) ?_
 rintro j_ ⟨xa,xb⟩ H
 rcases j_ with _ | ja
 ·
  exact (aZ.no H).elim
 try dsimp only at H
 rw [gJ.l0] at H
 refine WP.seq<|wr 4 0<|go 2<|Dv.jN Q T Q py<|go 1<|ce H ?_ ?_ <;> intro H
 rotate_left
 ·
  refine WP.exit ?_
  have H:=H.out
  exact jn (xa,decide (xa<(a0.length:Int)),xb) H
 refine WP.skip<|WP.seq<|WP.block<|wd mX 12 1536<|gl 3 [0]<|gr H fun ga H=>Dv.kg Q T Q Q py km mK ga.1 ga.2<|oz Q T Q Gd Q<|el H fun ta haa H=>cl Q (cL 90) Q (er.c haa)<|go 1<|eD Q T Q Q<|eD Q T Q Q<|al Q T II pD fun bd=>sx 0 Q T Q Q cA sz33 Q Q Q pD ?_
 refine go 1<|rg 2 2<|gl 1 [0]<|sy 1 ?_
 refine .fin<|rg 3 0<|go 3<|ns 3 [0,1,2] 1 ?_
 exact bk ja (ax (xa+1),ta.1.fD) H
theorem fN.c (h:fN.f k a0 a1=some r):Tr prog 8 [sl Event.K a0,vI a1] [] (γ:=OV×OV×OV×OV×OV) (fun _=>True) (fun g=>kR [agg [eq g.1.1,eq g.2.1.1,eq g.2.2.1.1,eq g.2.2.2.1.1,eq g.2.2.2.2.1],agg (dE.enc r.2.1),vB r.2.2]) (fun g=>[aH.O g.1 r.1.cK,gW.O g.2.1 r.1.bu,bH.O g.2.2.1 r.1.aW,bM.O g.2.2.2.1 r.1.aY,bK.O g.2.2.2.2 r.1.gG]):=by
 refine tf func8 h fun R0 F H=>?_
 refine wr 3 3<|al Q T JG nofun fun ba=>al Q T EY nofun fun bc=>go 1<|wr 6 1<|el H fun ta haa H=>cx 2 [0,1] (cL 30) (oC.c haa) nofun fun ga _=>?_
 refine go 1<|eD Q T Q Q<|eD Q T Q Q<|go 2<|wr 9 8<|go 3<|el H fun tc hac H=>cx 3 [0,1,2] (cL 31) (nf.c hac) nofun fun gb _=>?_
 refine go 1<|eD Q T Q Q<|eD Q T Q Q<|go 2<|wr 8 205<|el H fun te had H=>cx 4 [0,1,2,3] (cL 32) (rh.c had) nofun fun gi _=>?_
 refine go 1<|el H fun tg hae H=>cx 5 [0,1,2,3,4] (cL 33) (nG.c hae) nofun fun gj _=>?_
 refine el H fun tj haf H=>cx 6 [0,1,2,3,4,5] (cL 34) (ly.c haf) nofun fun gk _=>?_
 refine go 1<|gr H fun gm H=>vg (qW 4 Q (isN gm)) fun _ _=>?_
 refine gr H fun gn H=>vg (qW 4 Q (isN gn)) fun _ _=>?_
 refine Dv.lx (qs:=[eq gi.1,eq ga.1,eq gj.1,eq gk.1,eq gb.1]) (css:=[[eq gi.1],[eq ga.1],[eq gj.1],[eq gk.1],[eq gb.1]]) Q T KJ pl30 z30 Q ⟨(cells_one bQ),⟨(cells_one bQ),⟨(cells_one bQ),⟨(cells_one bQ),⟨(cells_one bQ),T⟩⟩⟩⟩⟩ Q Q<|al Q T JG nofun fun bd=>sy 0 ?_
 refine .fin<|WP.seq<|wr 31 0<|gl 2 [0]<|Dv.FG aH.nn Q T Q Q U24 (ab 5 Q)<|gl 3 [0]<|Dv.FG gW.nn Q (gg Q) Q Q U25 (ab 2 Q)<|gl 4 [0]<|Dv.FG bH.nn Q (gg Q) Q Q U26 (ab 4 Q)<|gl 4 [0]<|Dv.FG bM.nn Q (gg Q) Q Q U27 (ab 3 Q)<|gl 4 [0]<|Dv.FG bK.nn Q (gg Q) Q Q U28 (ab 1 Q)<|gp 6 ?_
 rcases bm H with ⟨cc,H⟩ | ⟨cc,H⟩
 rotate_left
 ·
  refine sh 55 cc ?_
  refine sh 56 cc ?_
  refine sh 57 cc ?_
  refine go 3<|WP.cond Q (fun _=>?_) nofun
  refine wr 5 12<|gl 1 [0]<|Dv.lx (qs:=[dY,dY,dY,dY,dY,dY,dY,vI 0]) (css:=[]) Q T AL G4 z43 Q T Q Q<|sy 7 ?_
  refine sy 6 ?_
  refine gq 1 ?_
  obtain rfl:=aZ.out H
  exact rt i2 Q (gi,ga,gj,gk,gb) 8 [0,6,7,5,2,4,3,1] 3 (.cons (aw Q KJ Q c30 (ab 7 Q) Q) (.cons (oS (aw Q AL Q En (ab 6 Q) Q) (nZ (.cons dD (.cons dD (.cons dD (.cons dD (.cons dD (.cons dD (.cons dD (.cons cG .nil)))))))))) (.cons (aG Q) .nil)))
 refine sh 55 cc ?_
 refine sh 56 cc ?_
 refine sh 57 cc ?_
 refine go 3<|ce H ?_ ?_ <;> intro H
 ·
  refine wr 5 12<|gl 1 [0]<|Dv.lx (qs:=[dY,dY,dY,dY,dY,dY,dY,vI 0]) (css:=[]) Q T AL G4 z43 Q T Q Q<|sy 7 ?_
  refine sy 6 ?_
  refine gq 1 ?_
  obtain rfl:=aZ.out H
  exact rt i2 Q (gi,ga,gj,gk,gb) 8 [0,6,7,5,2,4,3,1] 3 (.cons (aw Q KJ Q c30 (ab 7 Q) Q) (.cons (oS (aw Q AL Q En (ab 6 Q) Q) (nZ (.cons dD (.cons dD (.cons dD (.cons dD (.cons dD (.cons dD (.cons dD (.cons cG .nil)))))))))) (.cons (aG Q) .nil)))
 refine WP.skip<|WP.kN H id (fun pa=>[(0,sl Event.K a0),(1,vI a1),(4,bO ba),(5,bO bc),(11,bO bd)]) (fun pa=>[ay bd 30 [eq gi.1,eq ga.1,eq gj.1,eq gk.1,eq gb.1],ay bc 43 [dY,dY,dY,dY,dY,dY,dY,vI 0],ay ba 30 [eq (.pointer none),eq (.pointer none),eq (.pointer none),eq (.pointer none),eq (.pointer none)],bK.O gb (tc.1.getD default),gW.O ga (ta.1.getD default),bM.O gk tj,bH.O gj tg,aH.O gi pa.2.2]++F) (fun pa H=>?_) (fun H=>?_)
 ·
  refine wd mX 8 96<|gl 2 [0]<|el H fun tm hag H=>cl Q (cL 36) Q (gJ.c hag)<|go 1<|Dv.lx (qs:=[sl aF.K tm.fD,dY,dY,dY,dY,dY,dY,vI a1]) (css:=[bq.enc tm,[vI a1]]) Q T AL G4 z43 Q ⟨(bn (bq.K.one _)),⟨(cells_one (aj Q)),T⟩⟩ Q Q<|sx 2 Q T Q Q cA sz30 Q Q Q pD ?_
  refine sv 1 ?_
  refine gq 1 ?_
  obtain rfl:=aZ.out H
  exact rt i2 Q (gi,ga,gj,gk,gb) 8 [0,1,2,7,4,6,5,3] 3 (.cons (aw Q KJ Q c30 (ab 2 Q) Q) (.cons (oS (aw Q AL Q En (ab 1 Q) Q) (nZ (.cons cG (.cons dD (.cons dD (.cons dD (.cons dD (.cons dD (.cons dD (.cons cG .nil)))))))))) (.cons (aG Q) .nil)))
 refine so<|WP.block<|ws 8 [0,6,7,1,2,3,4,5] 0 ?_
 refine lp (fun j_ (pc:Int×aH)=>fN.l0 k a0 ta tc tg tj j_ pc.1 pc.2) (0,te) H (fun pc=>[(0,sl Event.K a0),(1,vI a1),(4,bO ba),(5,bO bc),(11,bO bd),(12,vI pc.1)]) (fun pc=>[ay bd 30 [eq gi.1,eq ga.1,eq gj.1,eq gk.1,eq gb.1],ay bc 43 [dY,dY,dY,dY,dY,dY,dY,vI 0],ay ba 30 [eq (.pointer none),eq (.pointer none),eq (.pointer none),eq (.pointer none),eq (.pointer none)],bK.O gb (tc.1.getD default),gW.O ga (ta.1.getD default),bM.O gk tj,bH.O gj tg,aH.O gi pc.2]++F) ?_
 rintro j_ ⟨xa,xb⟩ H
 rcases j_ with _ | ja
 ·
  exact (aZ.no H).elim
 try dsimp only at H
 rw [fN.l0] at H
 refine WP.seq<|wr 4 0<|go 2<|Dv.jN Q T Q py<|go 1<|ce H ?_ ?_ <;> intro H
 rotate_left
 ·
  refine WP.exit ?_
  have H:=H.out
  exact jn (xa,decide (xa<(a0.length:Int)),xb) H
 refine WP.skip<|WP.seq<|WP.block<|wd mX 8 64<|gl 4 [0]<|gr H fun gu H=>Dv.kg Q T Q Q py km mK gu.1 gu.2<|oz Q T Q Gd Q<|el H fun tn hah H=>cx 8 [7,0,1,2,3,4,5,6] (cL 35) (iK.c hah (p0_:=gi)) pC fun _ _=>?_
 refine go 1<|ce H ?_ ?_ <;> intro H
 rotate_left
 ·
  refine WP.skip<|rg 3 0<|go 3<|ns 8 [1,2,3,4,5,6,7,0] 0 ?_
  exact bk ja (ax (xa+1),tn.2) H
 refine wr 5 12<|gl 1 [1]<|Dv.lx (qs:=[dY,dY,dY,dY,dY,dY,dY,vI 0]) (css:=[]) Q T AL G4 z43 Q T Q Q<|sy 3 ?_
 refine sy 2 ?_
 refine gq 1 ?_
 have H:=H.fW
 obtain rfl:=aZ.out H
 exact rt i2 Q (gi,ga,gj,gk,gb) 8 [1,2,3,0,5,7,6,4] 3 (.cons (aw Q KJ Q c30 (ab 3 Q) Q) (.cons (oS (aw Q AL Q En (ab 2 Q) Q) (nZ (.cons dD (.cons dD (.cons dD (.cons dD (.cons dD (.cons dD (.cons dD (.cons cG .nil)))))))))) (.cons (aG Q) .nil)))
theorem br.c (h:br.f a0 a1=some r):Pt prog 10 [vI a0,vI a1] (vI r):=by
 refine pf func10 h fun R0 F H=>?_
 refine so<|WP.seq<|so<|ce H ?_ ?_ <;> intro H
 rotate_left
 ·
  refine WP.skip<|wr 4 0<|go 2<|gr H fun ga H=>n9 Q Q Q (qo ga)<|gq 1 ?_
  cases H.out; exact ek 0
 refine rg 4 0<|go 4<|wr 4 0<|go 2<|gr H fun gb H=>n9 Q Q Q (qo gb)<|gq 1 ?_
 cases H.out; exact ek 0
theorem eS.c (h:eS.f a0=some r):Pt prog 18 [vI a0] (vS r):=by
 refine pf func18 h fun R0 F H=>?_
 refine so<|wr 6 0<|Dv.lit aC ([(⟨#[33,114,58,115,49]⟩:BA),(⟨#[33,113,58,115,50]⟩:BA)]:List BA) (css:=[[vS (⟨#[33,114,58,115,49]⟩:BA)],[vS (⟨#[33,113,58,115,50]⟩:BA)]]) Q T eh U9 c9 z9 Q dc dc Q ⟨(cells_one (aj Q)),⟨(cells_one (aj Q)),T⟩⟩ Q Q Q<|go 1<|el H fun ta haa H=>cl Q (cL 10) Q (br.c haa)<|gr H fun ga H=>Dv.kg Q T Q Q eh U9 c9 ga.1 ga.2<|lM Q T Q o9 Q<|gq 1 ?_
 cases H.out; exact ek 0
theorem mS.c (h:mS.f a0=some r):Pt prog 52 [vI a0] (vS r):=by
 refine pf func52 h fun R0 F H=>?_
 refine so<|wr 6 0<|Dv.lit aC ([(⟨#[115,49]⟩:BA),(⟨#[115,50]⟩:BA),(⟨#[115,51]⟩:BA)]:List BA) (css:=[[vS (⟨#[115,49]⟩:BA)],[vS (⟨#[115,50]⟩:BA)],[vS (⟨#[115,51]⟩:BA)]]) Q T eh U9 c9 z9 Q dc dc Q ⟨(cells_one (aj Q)),⟨(cells_one (aj Q)),⟨(cells_one (aj Q)),T⟩⟩⟩ Q Q Q<|go 1<|el H fun ta haa H=>cl Q (cL 10) Q (br.c haa)<|gr H fun ga H=>Dv.kg Q T Q Q eh U9 c9 ga.1 ga.2<|lM Q T Q o9 Q<|gq 1 ?_
 cases H.out; exact ek 0
theorem gQ.c (h:gQ.f a0=some r):Pt prog 13 [vI a0] (vS r):=by
 refine pf func13 h fun R0 F H=>?_
 refine so<|wr 3 0<|go 1<|el H fun ta haa H=>cl Q (cL 10) Q (br.c haa)<|go 1<|wd mX 10 0<|Dv.lit aC ([(⟨#[64,97,58]⟩:BA),(⟨#[64,98,58]⟩:BA),(⟨#[64,99,58]⟩:BA)]:List BA) (css:=[[vS (⟨#[64,97,58]⟩:BA)],[vS (⟨#[64,98,58]⟩:BA)],[vS (⟨#[64,99,58]⟩:BA)]]) Q T eh U9 c9 z9 Q dc dc Q ⟨(cells_one (aj Q)),⟨(cells_one (aj Q)),⟨(cells_one (aj Q)),T⟩⟩⟩ Q Q Q<|go 1<|n9 Q Q Q (nM dc)<|gr H fun ga H=>Dv.kg Q T Q Q eh U9 c9 ga.1 ga.2<|lM Q T Q o9 Q<|go 1<|n9 Q Q Q (qo dc)<|el H fun tc hac H=>cl Q (cL 52) Q (mS.c hac)<|gr H fun gb H=>n9 Q Q Q (iB gb)<|gq 1 ?_
 cases H.out; exact ek 0
theorem iu.c:∀ (k:Nat) {a0:Int} {r:BA} (h:iu.f k a0=some r),Pt prog 117 [vI a0] (vS r)
  | 0,_,_,h=>by cases h
  | k+1,a0,r,h=>by
    rw [iu.f] at h
    refine pb func117 ntmps117 h fun R0 F H=>?_
    refine so<|wr 3 0<|go 1<|n9 Q Q Q (qo dc)<|go 1<|WP.iQ H id (fun pa=>[(0,vI a0),(3,vI pa)]) (fun pa=>F) (fun pa H=>?_) (fun H=>?_)
    rotate_left
    ·
     refine so<|ce H ?_ ?_ <;> intro H
     rotate_left
     ·
      refine WP.skip ?_
      have H:=H.out
      exact jn (a0.tmod 10) H
     refine rg 3 0<|gq 3 ?_
     have H:=H.out
     exact jn (ax (0-(a0.tmod 10))) H
    refine wr 6 0<|go 2<|Dv.Hg Q T Q U3 U5<|Dv.lit (bp .u8) ([IntKind.u8.wrap (ax (48+pa))]:List Int) (css:=[[eq (.int .u8 (IntKind.u8.wrap (ax (48+pa))))]]) Q T jA U5 c5 z5 Q dc dc Q ⟨(cells_one (aj Q)),T⟩ Q Q Q<|Dv.JJ Q T Q jA U5 U9<|go 1<|WP.seq<|wr 6 0<|gp 3 ?_
    cases cc:decide ((-10)<a0)
    ·
     have H:=H.cf cc
     refine go 3<|WP.cond Q nofun (fun _=>?_)
     refine WP.skip<|wr 6 0<|go 1<|n9 Q Q Q (nM dc)<|el H fun ta haa H=>cl Q (cL 117) Q (iu.c k haa)<|go 1<|gr H fun ga H=>n9 Q Q Q (iB ga)<|gq 1 ?_
     cases H.out; exact ek 0
    have H:=H.ct cc
    refine go 3<|ce H ?_ ?_ <;> intro H
    rotate_left
    ·
     refine WP.skip<|wr 6 0<|go 1<|n9 Q Q Q (nM dc)<|el H fun tc hac H=>cl Q (cL 117) Q (iu.c k hac)<|go 1<|gr H fun gb H=>n9 Q Q Q (iB gb)<|gq 1 ?_
     cases H.out; exact ek 0
    refine WP.seq<|so<|ce H ?_ ?_ <;> intro H
    rotate_left
    ·
     refine WP.skip<|sp ?_
     cases H.out; exact ek 0
    refine wr 3 0<|go 1<|gr H fun gi H=>n9 Q Q Q (iB gi)<|gq 1 ?_
    cases H.out; exact ek 0
theorem dq.c (h:dq.f k a0=some r):Pt prog 50 [vI a0] (vS r):=by
 refine pf func50 h fun R0 F H=>?_
 refine so<|wr 5 0<|go 1<|el H fun ta haa H=>cl Q (cL 10) Q (br.c haa)<|el H fun tc hac H=>cl Q (cL 117) Q (iu.c _ hac)<|gr H fun ga H=>n9 Q Q Q (iB ga)<|gq 1 ?_
 cases H.out; exact ek 0
theorem bI.c (h:bI.f k a0 a1=some r):Pt prog 37 [vS a0,sl de.K a1] (agg (aF.enc r)):=by
 refine pf func37 h fun R0 F H=>?_
 refine wr 1 1<|al Q T ow nofun fun ba=>.fin<|wr 4 12<|go 1<|Dv.lx (qs:=[vS a0,dY]) (css:=[[vS a0]]) Q T lI FC BB Q ⟨(cells_one (aj Q)),T⟩ Q Q<|al Q T ow nofun fun bc=>sy 0 ?_
 refine .fin<|WP.iQ H id (fun pa=>[(4,bO ba),(5,bO bc)]) (fun pa=>[ay bc 113 [vS pa.2.2.1,sl Event.K pa.2.2.2],ay ba 113 [vS eE,dY]]++F) (fun pa H=>?_) (fun H=>?_)
 ·
  refine wr 2 2<|gl 1 [0]<|sy 1 ?_
  refine .fin ?_
  cases H.out; exact r2 i2 Q (.cons (aw Q lI Q nw (ab 1 Q) Q) .nil)
 refine so<|WP.block<|WP.gh (IX (E':=[(0,vS a0),(1,sl de.K a1),(4,bO ba),(5,bO bc),(6,vI 0)]) (l':=[ay bc 113 [vS a0,sl Event.K ([]:List Event)],ay ba 113 [vS eE,dY]]++F) (lE Q cG (lE Q cG (lE Q cG (lE Q cG (lE Q cG BZ))))) (bP (.cons (BH (.cons cG (.cons dD .nil))) (.cons yD .nil)) fun _=>yD)) (fun _ _=>?_)
 refine ws 2 [0,1] 0 ?_
 refine lp (fun j_ (pc:Int×BA×(List Event))=>bI.l0 k a0 a1 j_ pc.1 pc.2.1 pc.2.2) (0,a0,([]:List Event)) H (fun pc=>[(0,vS a0),(1,sl de.K a1),(4,bO ba),(5,bO bc),(6,vI pc.1)]) (fun pc=>[ay bc 113 [vS pc.2.1,sl Event.K pc.2.2],ay ba 113 [vS eE,dY]]++F) ?_
 rintro j_ ⟨xa,xb,xc⟩ H
 rcases j_ with _ | ja
 ·
  exact (aZ.no H).elim
 try dsimp only at H
 rw [bI.l0] at H
 refine WP.seq<|wr 8 0<|go 2<|Dv.jN Q T Q KF<|gp 2 ?_
 cases cc:decide (xa<(a1.length:Int))
 ·
  have H:=H.cf cc
  refine go 3<|WP.cond Q nofun (fun _=>?_)
  refine WP.exit ?_
  have H:=H.out
  exact jn (xa,false,xb,xc) H
 have H:=H.ct cc
 refine go 3<|ce H ?_ ?_ <;> intro H
 rotate_left
 ·
  refine WP.exit ?_
  have H:=H.out
  exact jn (xa,decide (xa<9),xb,xc) H
 refine WP.skip<|WP.iQ H (fun qh:(Int×Int×Bool×Bool×Bool×BA×(List Event)×(List Bool))×OV=>qh.1) (fun qh=>[(0,vS a0),(1,sl de.K a1),(4,bO ba),(5,bO bc),(6,vI xa)]) (fun qh=>[ay bc 113 [vS qh.1.2.2.2.2.2.1,sl Event.K qh.1.2.2.2.2.2.2.1],ay ba 113 [vS eE,dY],own bR qh.2.1 qh.1.2.2.2.2.2.2.2]++F) (fun qh H=>?_) (fun H=>?_)
 ·
  obtain ⟨pe,va⟩:=qh
  refine rg 3 0<|go 3<|ns 3 [2,0,1] 1 ?_
  exact bk ja (ax (xa+1),pe.2.2.2.2.2.1,pe.2.2.2.2.2.2.1) H
 refine WP.block<|wd mX 18 196608<|go 1<|el H fun ta haa H=>cl Q (cL 50) Q (dq.c haa)<|go 3<|gr H fun ga H=>Dv.kg Q T Q Q KF xL yP ga.1 ga.2<|fr Q T Q Ik Q<|lM Q T Q Gz Q<|el H fun tc hac H=>cl Q (cL 13) Q (gQ.c hac)<|go 2<|gr H fun gb H=>Dv.kg Q T Q Q KF xL yP gb.1 gb.2<|fr Q T Q GG Q<|lM Q T Q Gz Q<|el H fun te had H=>cl Q (cL 10) Q (br.c had)<|Dv.lx (qs:=[vS ta,vS a0,dY,vS eE,vS tc,vI te]) (css:=[[vS ta],[vS a0],[vS tc],[vI te]]) Q T km Ez Di Q ⟨(cells_one (aj Q)),⟨(cells_one (aj Q)),⟨(cells_one (aj Q)),⟨(cells_one (aj Q)),T⟩⟩⟩⟩ Q Q<|al Q T uR pD fun bd=>sv 0 ?_
 refine .fin<|wr 2 1<|gr H fun gi H=>?_
 obtain ⟨ti623,ti623a,ti623b,ti623c,ti623d⟩:=Aa
 refine Dv.Gs (Kd:=bR) (false:Bool) Q T Q Q sg ti623a ti623b ti623c ti623d Q dc Q gi nofun (fun vb=>?_)
 refine go 1<|WP.iQ H id (fun pg=>[(0,vS a0),(1,sl de.K a1),(4,bO ba),(5,bO bc),(6,vI xa),(7,bO bd),(8,eq vb.1)]) (fun pg=>[ay bd 110 [vS ta,vS a0,dY,vS eE,vS tc,vI te],ay bc 113 [vS xb,sl Event.K xc],ay ba 113 [vS eE,dY],own bR vb.1 pg.2.2]++F) (fun pg H=>?_) (fun H=>?_)
 rotate_left
 ·
  refine so<|WP.block<|ws 4 [1,2,3,0] 0 ?_
  refine lp (fun j_ (ph:Int×(List Bool))=>bI.l2 k a1 xa j_ ph.1 ph.2) (0,List.replicate (9:Int).toNat (false:Bool)) H (fun ph=>[(0,vS a0),(1,sl de.K a1),(4,bO ba),(5,bO bc),(6,vI xa),(7,bO bd),(8,eq vb.1),(9,vI ph.1)]) (fun ph=>[ay bd 110 [vS ta,vS a0,dY,vS eE,vS tc,vI te],ay bc 113 [vS xb,sl Event.K xc],ay ba 113 [vS eE,dY],own bR vb.1 ph.2]++F) ?_
  rintro j_ ⟨xd,xe⟩ H
  rcases j_ with _ | jc
  ·
   exact (aZ.no H).elim
  try dsimp only at H
  rw [bI.l2] at H
  refine WP.seq<|wr 16 0<|go 3<|gr H fun gj H=>Dv.kg Q T Q Q KF xL yP gj.1 gj.2<|fr Q T Q B4 Q<|lM Q T Q sc38 Q<|Dv.jN Q T Q qV<|gp 2 ?_
  cases cg:decide (xd<(((de.K.at a1 xa).ae).length:Int))
  ·
   have H:=H.cf cg
   refine go 7<|WP.cond Q nofun (fun _=>?_)
   refine WP.exit ?_
   have H:=H.out
   exact jn (xd,false,xe) H
  have H:=H.ct cg
  refine gp 4 ?_
  cases ci:decide (xd<3)
  ·
   have H:=H.cf ci
   refine go 3<|WP.cond Q nofun (fun _=>?_)
   refine WP.exit ?_
   have H:=H.out
   exact jn (xd,false,xe) H
  have H:=H.ct ci
  refine go 3<|ce H ?_ ?_ <;> intro H
  rotate_left
  ·
   refine WP.exit ?_
   have H:=H.out
   exact jn (xd,decide (0<xa),xe) H
  refine WP.skip<|WP.seq<|WP.block<|rg 13 4096<|go 3<|gr H fun gk H=>Dv.kg Q T Q Q KF xL yP gk.1 gk.2<|fr Q T Q B4 Q<|lM Q T Q sc38 Q<|go 1<|gr H fun gm H=>Dv.kg Q T Q Q qV U3 c3 gm.1 gm.2<|lM Q T Q Gz Q<|go 1<|el H fun tg hae H=>cl Q (cL 10) Q (br.c hae)<|gr H fun gn H=>?_
  have haf:tg.toNat<xe.length:=bC gn
  exact Dv.kF Q T Q (ab 3 Q) Q sg U4 c4 gn.1 gn.2<|Dv.Iy (j:=tg.toNat) (f:=0) (jj:=3) true Q T Q Q (cells_one (aj Q)) U4 c4 Q Q haf (Nat.le_of_ble_eq_true Q) Q nofun<|.fin<|rg 3 0<|go 3<|bk jc (ax (xd+1),xe.set tg.toNat true) H
 refine WP.iQ H (fun qi:(Int×Bool×(List BA))×OV=>qi.1) (fun qi=>[(0,vS a0),(1,sl de.K a1),(4,bO ba),(5,bO bc),(6,vI xa),(7,bO bd)]) (fun qi=>[ay bd 110 [vS ta,vS a0,eq qi.2.1,vS eE,vS tc,vI te],ay bc 113 [vS xb,sl Event.K xc],ay ba 113 [vS eE,dY],own bR vb.1 pg.2.2,own aC qi.2.1 qi.1.2.2]++F) (fun qi H=>?_) (fun H=>?_)
 rotate_left
 ·
  refine so<|WP.block<|wg (eX aC none) fun _ _=>?_
  refine ws 5 [1,2,3,4,0] 0 ?_
  refine lp (fun j_ (pi:Int×(List BA)×OV)=>bI.l1 k xa pg j_ pi.1 pi.2.1) (0,([]:List BA),l6) H (fun pi=>[(0,vS a0),(1,sl de.K a1),(4,bO ba),(5,bO bc),(6,vI xa),(7,bO bd),(8,eq vb.1),(10,vI pi.1)]) (fun pi=>[ay bd 110 [vS ta,vS a0,eq pi.2.2.1,vS eE,vS tc,vI te],ay bc 113 [vS xb,sl Event.K xc],ay ba 113 [vS eE,dY],own bR vb.1 pg.2.2,own aC pi.2.2.1 pi.2.1]++F) ?_
  rintro j_ ⟨xf,xg,vd⟩ H
  rcases j_ with _ | jd
  ·
   exact (aZ.no H).elim
  try dsimp only at H
  rw [bI.l1] at H
  refine WP.seq<|so<|ce H ?_ ?_ <;> intro H
  rotate_left
  ·
   refine WP.exit ?_
   have H:=H.out
   exact jn ((xf,decide (xf<xa),xg),vd) H
  refine WP.skip<|WP.seq<|WP.block<|wr 4 0<|go 2<|gr H fun gu H=>?_
  have hag:xf.toNat<pg.2.2.length:=bC gu
  refine Dv.kF Q T Q (ab 3 Q) Q sg U4 c4 gu.1 gu.2<|Dv.oH (j:=xf.toNat) (f:=0) (p:=vB (pg.2.2.getD xf.toNat default)) Q T Q (ab 3 Q) hag U4 Q Q<|.fin<|ce H ?_ ?_ <;> intro H
  rotate_left
  ·
   exact WP.skip<|rg 3 0<|go 3<|bk jd (ax (xf+1),xg,vd) H
  refine dg mX 8 160<|gl 3 [0]<|el H fun tj hah H=>cl Q (cL 50) Q (dq.c hah)<|Dv.lit aC ([tj]:List BA) (css:=[[vS tj]]) Q T eh U9 c9 z9 Q dc dc Q ⟨(cells_one (aj Q)),T⟩ Q Q Q<|gr H fun gv H=>ap aC 4 ([tj]:List BA) bY eh (.inr ⟨_,eh⟩) xH gv pB fun ve=>?_
  refine go 1<|sx 0 Q T Q Q (cells_one bQ) HZ Q Q Q pB ?_
  exact .fin<|rg 3 0<|go 3<|bk jd (ax (xf+1),xg++([tj]:List BA),ve) H
 obtain ⟨pj,vh⟩:=qi
 refine WP.seq<|wr 7 0<|kW 4 [0] ?_
 cases cj:(te==0)
 ·
  have H:=H.cf cj
  refine go 3<|WP.cond Q nofun (fun _=>?_)
  refine WP.skip<|wr 9 192<|gl 2 [1,0]<|Dv.gh (eF (E':=[(0,vS a0),(1,sl de.K a1),(4,bO ba),(5,bO bc),(6,vI xa),(7,bO bd),(95,vB false),(129,agg [vS xb,sl Event.K xc]),(130,agg [vS ta,vS a0,sl aC pj.2.2,vS eE,vS tc,vI te])]) (l':=[ay bd 110 [vS ta,vS a0,sl aC pj.2.2,vS eE,vS tc,vI te],ay bc 113 [vS xb,sl Event.K xc],ay ba 113 [vS eE,dY],own bR vb.1 pg.2.2]++F) 4 Q (ah Q ao (ah Q ao (ah Q ao (ah Q ao (ah Q ao (ah Q ao (ah Q ao (ah Q ao (ah Q (sA (.cons ao (.cons ao (.cons dm (.cons ao (.cons ao (.cons ao .nil))))))) cT))))))))) (bP (.cons (cJ (.cons ao (.cons ao (.cons dm (.cons ao (.cons ao (.cons ao .nil))))))) (.cons av (.cons av (.cons av .nil)))) fun _=>av)) (fun _ _=>?_)
  refine el H fun tm hai H=>cl Q (cL 91) Q (dP.c hai)<|go 1<|eD Q T Q Q<|eD Q T Q Q<|al Q T ow nofun fun be=>sy 0 ?_
  refine go 1<|rg 2 2<|gl 1 [0]<|sy 2 ?_
  refine .fin ?_
  have H:=H.out
  refine ns 5 [0,1,2,3,4] 2 ?_
  exact jn ((pg.1,pj.1,pg.2.1,pj.2.1,false,tm.1.aa,tm.1.fL,pg.2.2),vb) H
 have H:=H.ct cj
 refine go 3<|ce H ?_ ?_ <;> intro H
 rotate_left
 ·
  refine WP.skip<|wr 9 192<|gl 2 [1,0]<|Dv.gh (eF (E':=[(0,vS a0),(1,sl de.K a1),(4,bO ba),(5,bO bc),(6,vI xa),(7,bO bd),(95,vB (decide (0<xa))),(129,agg [vS xb,sl Event.K xc]),(130,agg [vS ta,vS a0,sl aC pj.2.2,vS eE,vS tc,vI te])]) (l':=[ay bd 110 [vS ta,vS a0,sl aC pj.2.2,vS eE,vS tc,vI te],ay bc 113 [vS xb,sl Event.K xc],ay ba 113 [vS eE,dY],own bR vb.1 pg.2.2]++F) 4 Q (ah Q ao (ah Q ao (ah Q ao (ah Q ao (ah Q ao (ah Q ao (ah Q ao (ah Q ao (ah Q (sA (.cons ao (.cons ao (.cons dm (.cons ao (.cons ao (.cons ao .nil))))))) cT))))))))) (bP (.cons (cJ (.cons ao (.cons ao (.cons dm (.cons ao (.cons ao (.cons ao .nil))))))) (.cons av (.cons av (.cons av .nil)))) fun _=>av)) (fun _ _=>?_)
  refine el H fun tn haj H=>cl Q (cL 91) Q (dP.c haj)<|go 1<|eD Q T Q Q<|eD Q T Q Q<|al Q T ow nofun fun bg=>sy 0 ?_
  refine go 1<|rg 2 2<|gl 1 [0]<|sy 2 ?_
  refine .fin ?_
  have H:=H.out
  refine ns 5 [0,1,2,3,4] 2 ?_
  exact jn ((pg.1,pj.1,pg.2.1,pj.2.1,decide (0<xa),tn.1.aa,tn.1.fL,pg.2.2),vb) H
 refine wr 9 0<|go 2<|gr H fun gw H=>Dv.kg Q T Q Q KF xL yP gw.1 gw.2<|fr Q T Q HG Q<|lM Q T Q Gz Q<|go 2<|el H fun tp hak H=>cl Q (cL 10) Q (br.c hak)<|go 1<|wr 21 0<|gp 4 ?_
 cases ck:decide (tp<xa)
 ·
  have H:=H.cf ck
  refine go 17<|WP.cond Q nofun (fun _=>?_)
  refine WP.skip<|wr 9 192<|gl 2 [1,0]<|Dv.gh (eF (E':=[(0,vS a0),(1,sl de.K a1),(4,bO ba),(5,bO bc),(6,vI xa),(7,bO bd),(11,vI tp),(95,vB (decide (0<xa))),(124,vB false),(129,agg [vS xb,sl Event.K xc]),(130,agg [vS ta,vS a0,sl aC pj.2.2,vS eE,vS tc,vI te])]) (l':=[ay bd 110 [vS ta,vS a0,sl aC pj.2.2,vS eE,vS tc,vI te],ay bc 113 [vS xb,sl Event.K xc],ay ba 113 [vS eE,dY],own bR vb.1 pg.2.2]++F) 4 Q (ah Q ao (ah Q ao (ah Q ao (ah Q ao (ah Q ao (ah Q ao (ah Q ao (ah Q ao (ah Q ao (ah Q ao (ah Q (sA (.cons ao (.cons ao (.cons dm (.cons ao (.cons ao (.cons ao .nil))))))) cT))))))))))) (bP (.cons (cJ (.cons ao (.cons ao (.cons dm (.cons ao (.cons ao (.cons ao .nil))))))) (.cons av (.cons av (.cons av .nil)))) fun _=>av)) (fun _ _=>?_)
  refine el H fun tq ham H=>cl Q (cL 91) Q (dP.c ham)<|go 1<|eD Q T Q Q<|eD Q T Q Q<|al Q T ow nofun fun bh=>sy 0 ?_
  refine go 1<|rg 2 2<|gl 1 [0]<|sy 2 ?_
  refine .fin ?_
  have H:=H.out
  refine ns 5 [0,1,2,3,4] 2 ?_
  exact jn ((pg.1,pj.1,pg.2.1,pj.2.1,decide (0<xa),tq.1.aa,tq.1.fL,pg.2.2),vb) H
 have H:=H.ct ck
 refine gl 3 [1]<|gr H fun gy H=>Dv.kg Q (gg Q) Q Q py km mK gy.1 gy.2<|fr Q (gg Q) Q yz Q<|lM Q (gg Q) Q Gz Q<|gp 3 ?_
 cases cn:(((Event.K.at xc tp).bL)==0)
 ·
  have H:=H.cf cn
  refine go 8<|WP.cond Q nofun (fun _=>?_)
  refine WP.skip<|wr 9 192<|gl 2 [1,0]<|Dv.gh (eF (E':=[(0,vS a0),(1,sl de.K a1),(4,bO ba),(5,bO bc),(6,vI xa),(7,bO bd),(11,vI tp),(95,vB (decide (0<xa))),(124,vB false),(129,agg [vS xb,sl Event.K xc]),(130,agg [vS ta,vS a0,sl aC pj.2.2,vS eE,vS tc,vI te])]) (l':=[ay bd 110 [vS ta,vS a0,sl aC pj.2.2,vS eE,vS tc,vI te],ay bc 113 [vS xb,sl Event.K xc],ay ba 113 [vS eE,dY],own bR vb.1 pg.2.2]++F) 4 Q (ah Q ao (ah Q ao (ah Q ao (ah Q ao (ah Q ao (ah Q ao (ah Q ao (ah Q ao (ah Q ao (ah Q ao (ah Q (sA (.cons ao (.cons ao (.cons dm (.cons ao (.cons ao (.cons ao .nil))))))) cT))))))))))) (bP (.cons (cJ (.cons ao (.cons ao (.cons dm (.cons ao (.cons ao (.cons ao .nil))))))) (.cons av (.cons av (.cons av .nil)))) fun _=>av)) (fun _ _=>?_)
  refine el H fun tu han H=>cl Q (cL 91) Q (dP.c han)<|go 1<|eD Q T Q Q<|eD Q T Q Q<|al Q T ow nofun fun bi=>sy 0 ?_
  refine go 1<|rg 2 2<|gl 1 [0]<|sy 2 ?_
  refine .fin ?_
  have H:=H.out
  refine ns 5 [0,1,2,3,4] 2 ?_
  exact jn ((pg.1,pj.1,pg.2.1,pj.2.1,decide (0<xa),tu.1.aa,tu.1.fL,pg.2.2),vb) H
 have H:=H.ct cn
 refine gl 3 [1]<|gr H fun gz H=>Dv.kg Q (gg Q) Q Q py km mK gz.1 gz.2<|fr Q (gg Q) Q xr Q<|lM Q (gg Q) Q o9 Q<|go 2<|ce H ?_ ?_ <;> intro H
 rotate_left
 ·
  refine WP.skip<|wr 9 192<|gl 2 [1,0]<|Dv.gh (eF (E':=[(0,vS a0),(1,sl de.K a1),(4,bO ba),(5,bO bc),(6,vI xa),(7,bO bd),(11,vI tp),(95,vB (decide (0<xa))),(124,vB (decide (((Event.K.at xc tp).ag)=eE))),(129,agg [vS xb,sl Event.K xc]),(130,agg [vS ta,vS a0,sl aC pj.2.2,vS eE,vS tc,vI te])]) (l':=[ay bd 110 [vS ta,vS a0,sl aC pj.2.2,vS eE,vS tc,vI te],ay bc 113 [vS xb,sl Event.K xc],ay ba 113 [vS eE,dY],own bR vb.1 pg.2.2]++F) 4 Q (ah Q ao (ah Q ao (ah Q ao (ah Q ao (ah Q ao (ah Q ao (ah Q ao (ah Q ao (ah Q ao (ah Q ao (ah Q (sA (.cons ao (.cons ao (.cons dm (.cons ao (.cons ao (.cons ao .nil))))))) cT))))))))))) (bP (.cons (cJ (.cons ao (.cons ao (.cons dm (.cons ao (.cons ao (.cons ao .nil))))))) (.cons av (.cons av (.cons av .nil)))) fun _=>av)) (fun _ _=>?_)
  refine el H fun tw hao H=>cl Q (cL 91) Q (dP.c hao)<|go 1<|eD Q T Q Q<|eD Q T Q Q<|al Q T ow nofun fun bj=>sy 0 ?_
  refine go 1<|rg 2 2<|gl 1 [0]<|sy 2 ?_
  refine .fin ?_
  have H:=H.out
  refine ns 5 [0,1,2,3,4] 2 ?_
  exact jn ((pg.1,pj.1,pg.2.1,pj.2.1,decide (0<xa),tw.1.aa,tw.1.fL,pg.2.2),vb) H
 refine rg 4 8<|go 1<|el H fun tx hap H=>cl Q (cL 50) Q (dq.c hap)<|go 1<|sy 0 ?_
 refine .fin<|wr 9 192<|gl 2 [1,0]<|Dv.gh (eF (E':=[(0,vS a0),(1,sl de.K a1),(4,bO ba),(5,bO bc),(6,vI xa),(7,bO bd),(11,vI tp),(95,vB (decide (0<xa))),(124,vB (decide (((Event.K.at xc tp).ag)=eE))),(129,agg [vS xb,sl Event.K xc]),(130,agg [vS ta,vS a0,sl aC pj.2.2,vS tx,vS tc,vI te])]) (l':=[ay bd 110 [vS ta,vS a0,sl aC pj.2.2,vS tx,vS tc,vI te],ay bc 113 [vS xb,sl Event.K xc],ay ba 113 [vS eE,dY],own bR vb.1 pg.2.2]++F) 4 Q (ah Q ao (ah Q ao (ah Q ao (ah Q ao (ah Q ao (ah Q ao (ah Q ao (ah Q ao (ah Q ao (ah Q ao (ah Q (sA (.cons ao (.cons ao (.cons dm (.cons ao (.cons ao (.cons ao .nil))))))) cT))))))))))) (bP (.cons (cJ (.cons ao (.cons ao (.cons dm (.cons ao (.cons ao (.cons ao .nil))))))) (.cons av (.cons av (.cons av .nil)))) fun _=>av)) (fun _ _=>?_)
 refine el H fun tz haq H=>cl Q (cL 91) Q (dP.c haq)<|go 1<|eD Q T Q Q<|eD Q T Q Q<|al Q T ow nofun fun bl=>sy 0 ?_
 refine go 1<|rg 2 2<|gl 1 [0]<|sy 2 ?_
 refine .fin ?_
 have H:=H.out
 refine ns 5 [0,1,2,3,4] 2 ?_
 exact jn ((pg.1,pj.1,pg.2.1,pj.2.1,decide (0<xa),tz.1.aa,tz.1.fL,pg.2.2),vb) H
theorem ou.c (h:ou.f k a0 a1=some r):Tr prog 9 [sl de.K a0,sl de.K a1] [] (γ:=OV) (fun _=>True) (fun g=>eq g.1) (fun g=>[own Event.K g.1 r]):=by
 refine tf func9 h fun R0 F H=>?_
 refine so<|so<|wr 7 32<|go 1<|el H fun ta haa H=>cl Q (cL 18) Q (eS.c haa)<|go 1<|el H fun tc hac H=>cl Q (cL 37) Q (bI.c hac)<|Dv.fld Q T Q lI Q py Q Q<|vg (eX Event.K none) fun _ _=>?_
 refine gr H fun ga H=>ap Event.K 0 tc.fL bY py (.inr ⟨_,py⟩) uO ga nofun fun va=>?_
 refine go 1<|wr 7 32<|go 1<|el H fun te had H=>cl Q (cL 18) Q (eS.c had)<|go 1<|el H fun tg hae H=>cl Q (cL 37) Q (bI.c hae)<|Dv.fld Q T Q lI Q py Q Q<|gr H fun gb H=>ap Event.K 0 tg.fL bY py (.inr ⟨_,py⟩) uO gb nofun fun vb=>?_
 refine gq 1 ?_
 cases H.out; exact et vb 1 [0] 0
theorem fO.c (h:fO.f k a0 a1=some r):Pt prog 23 [sl MK.K a0,agg (bz.enc a1)] (vI r):=by
 refine pf func23 h fun R0 F H=>?_
 refine wr 2 1<|Dv.box Q T Q cA nofun fun ba=>go 1<|WP.kN H id (fun pa=>[]) (fun pa=>[ay ba 79 (bz.enc a1)]++F) (fun pa H=>?_) (fun H=>?_)
 ·
  refine sp ?_
  cases H.out; exact ek 1
 refine so<|WP.block<|ws 1 [0] 0 ?_
 refine lp (fun j_ (pc:Int)=>fO.l0 k a0 a1 j_ pc) 0 H (fun pc=>[(0,sl MK.K a0),(3,bO ba),(5,vI pc)]) (fun pc=>[ay ba 79 (bz.enc a1)]++F) ?_
 rintro j_ xa H
 rcases j_ with _ | ja
 ·
  exact (aZ.no H).elim
 try dsimp only at H
 rw [fO.l0] at H
 refine WP.seq<|wr 4 0<|go 2<|Dv.jN Q T Q yF<|go 1<|ce H ?_ ?_ <;> intro H
 rotate_left
 ·
  refine WP.exit ?_
  have H:=H.out
  exact jn (xa,decide (xa<(a0.length:Int))) H
 refine WP.skip<|WP.seq<|WP.block<|wd mX 7 0<|go 2<|gr H fun ga H=>Dv.kg Q T Q Q yF Gy JH ga.1 ga.2<|fr Q T Q Ft Q<|oz Q T Q sg79 Q<|gl 1 [0]<|Dv.eqs [.string (((MK.K.at a0 xa).fK).aa),.string (((MK.K.at a0 xa).fK).ak),.string (((MK.K.at a0 xa).fK).ag),.bool (((MK.K.at a0 xa).fK).au)] [.string a1.aa,.string a1.ak,.string a1.ag,.bool a1.au] Q T Q Q Q Q eg79 (fun _=>nE 2 dc (fun _=>eqt79 ((MK.K.at a0 xa).fK) a1))<|.fin<|ce H ?_ ?_ <;> intro H
 rotate_left
 ·
  exact WP.skip<|rg 3 0<|go 3<|bk ja (ax (xa+1)) H
 refine sp ?_
 have H:=H.fW
 cases H.out; exact ek 1
theorem iG.c (h:iG.f a0 a1=some r):Pt prog 24 [agg (Pos.enc a0),agg (Pos.enc a1)] (vB r):=by
 refine pf func24 h fun R0 F H=>?_
 refine wr 3 3<|Dv.box Q T Q cA nofun fun ba=>Dv.box Q T Q cA nofun fun bc=>go 1<|wr 20 0<|kW 6 [1,0] ?_
 cases cc:decide (a0.bJ<a1.bJ)
 rotate_left
 ·
  have H:=H.ct cc
  refine gq 14 ?_
  cases H.out; exact ek 2
 have H:=H.cf cc
 refine kW 6 [1,0] ?_
 cases cg:(a0.bJ==a1.bJ)
 ·
  have H:=H.cf cg
  refine gq 8 ?_
  cases H.out; exact ek 2
 have H:=H.ct cg
 refine FW 8 [1,0] ?_
 cases H.out; exact ek 2
theorem lZ.c (h:lZ.f a0 a1=some r):Pt prog 75 [agg (bz.enc a0),agg (bz.enc a1)] (vB r):=by
 refine pf func75 h fun R0 F H=>?_
 refine wr 3 3<|Dv.box Q T Q cA nofun fun ba=>Dv.box Q T Q cA nofun fun bc=>go 1<|WP.seq<|sf [1,0]<|ce H ?_ ?_ <;> intro H
 ·
  refine spj [1,0] ?_
  cases H.out; exact ek 2
 refine WP.skip<|WP.seq<|sf [1,0]<|ce H ?_ ?_ <;> intro H
 ·
  refine spj [1,0] ?_
  cases H.out; exact ek 2
 refine WP.skip<|WP.seq<|sf [1,0]<|ce H ?_ ?_ <;> intro H
 ·
  refine spj [1,0] ?_
  cases H.out; exact ek 2
 refine WP.skip<|wr 8 0<|kW 4 [1] ?_
 cases cc:!a0.au
 ·
  have H:=H.cf cc
  refine gq 4 ?_
  cases H.out; exact ek 2
 have H:=H.ct cc
 refine FW 4 [0] ?_
 cases H.out; exact ek 2
theorem jy.c (h:jy.f k a0 a1 a2=some r):Pt prog 25 [sl MK.K a0,agg (bz.enc a1),agg (Pos.enc a2)] (kR [sl MK.K r.1,vB r.2]):=by
 refine pf func25 h fun R0 F H=>?_
 refine wr 4 3<|Dv.box Q T Q cA nofun fun ba=>Dv.box Q T Q cA nofun fun bc=>go 2<|wr 4 0<|gl 2 [1]<|el H fun ta haa H=>cl Q (cL 23) Q (fO.c haa)<|go 1<|so<|WP.seq<|so<|ce H ?_ ?_ <;> intro H
 ·
  refine wd mX 8 0<|go 2<|gr H fun ga H=>Dv.kg Q T Q Q yF Gy JH ga.1 ga.2<|fr Q T Q D5 Q<|oz Q T Q sg81 Q<|gl 1 [0]<|el H fun tc hac H=>cl Q (cL 24) Q (iG.c hac)<|go 1<|WP.seq<|so<|ce H ?_ ?_ <;> intro H
  ·
   refine sp ?_
   cases H.out; exact ek 2
  refine WP.skip<|wr 4 4<|go 2<|vg (eX MK.K none) fun _ _=>?_
  refine gr H fun gb H=>ap MK.K 0 a0 bY yF (.inr ⟨_,yF⟩) Cy gb nofun fun va=>?_
  refine go 1<|wr 6 32<|gl 3 [1]<|gr H fun gi H=>?_
  have had:ta.toNat<(([]:List MK)++a0).length:=bC gi
  refine Dv.kF Q T Q (ab 0 Q) Q yF Gy JH gi.1 gi.2<|fw Q T Q D5<|Dv.Iy (j:=ta.toNat) (f:=4) (jj:=0) (⟨((([]:List MK)++a0).getD ta.toNat default).fK,a2⟩:MK) Q T Q Q (bn (Pos.K.one _)) yr B1 Q Q had (Nat.le_of_ble_eq_true Q) Q nofun<|.fin<|so<|WP.gh (eF (E':=[(6,sl MK.K ((([]:List MK)++a0).set ta.toNat (⟨((([]:List MK)++a0).getD ta.toNat default).fK,a2⟩:MK))),(7,vB true)]) (l':=[ay bc 81 (Pos.enc a2),ay ba 79 (bz.enc a1)]++F) 0 Q (ah Q dm (ah Q ao cT)) (bP (.cons av (.cons av .nil)) fun _=>av)) (fun _ _=>?_)
  cases H.out; exact ek 2
 refine WP.skip<|so<|WP.iQ H id (fun pa=>[(0,sl MK.K a0),(4,bO ba),(5,bO bc),(9,dY),(11,vI pa.1)]) (fun pa=>[ay bc 81 (Pos.enc a2),ay ba 79 (bz.enc a1)]++F) (fun pa H=>?_) (fun H=>?_)
 rotate_left
 ·
  refine WP.block<|ws 2 [0,1] 0 ?_
  refine lp (fun j_ (pc:Int)=>jy.l0 k a0 a1 j_ pc) 0 H (fun pc=>[(0,sl MK.K a0),(4,bO ba),(5,bO bc),(9,dY),(11,vI pc)]) (fun pc=>[ay bc 81 (Pos.enc a2),ay ba 79 (bz.enc a1)]++F) ?_
  rintro j_ xa H
  rcases j_ with _ | ja
  ·
   exact (aZ.no H).elim
  try dsimp only at H
  rw [jy.l0] at H
  refine WP.seq<|wd mX 13 0<|go 2<|Dv.jN Q T Q yF<|gp 2 ?_
  cases cc:decide (xa<(a0.length:Int))
  ·
   have H:=H.cf cc
   refine go 8<|WP.cond Q nofun (fun _=>?_)
   refine WP.exit ?_
   have H:=H.out
   exact jn (xa,false) H
  have H:=H.ct cc
  refine go 2<|gr H fun gj H=>Dv.kg Q (gg Q) Q Q yF Gy JH gj.1 gj.2<|fr Q (gg Q) Q Ft Q<|oz Q (gg Q) Q sg79 Q<|gl 1 [1]<|el H fun te hae H=>Dv.call Q (gg Q) (cL 75) Q (lZ.c hae)<|go 1<|ce H ?_ ?_ <;> intro H
  rotate_left
  ·
   refine WP.exit ?_
   have H:=H.out
   exact jn (xa,te) H
  exact WP.skip<|WP.block<|rg 3 0<|go 3<|bk ja (ax (xa+1)) H
 refine wr 6 16<|go 3<|gr H fun gk H=>Dv.sls Q T Q yF Gy JH dG (fa Q gk.1) gk.2.1 gk.2.2<|vg (eX MK.K none) fun _ _=>?_
 refine gr H fun gm H=>ap MK.K 0 ((a0.take pa.1.toNat).drop 0) bY yF (.inr ⟨_,yF⟩) Cy gm nofun fun vb=>?_
 refine go 1<|wr 7 32<|gl 3 [2,1]<|Dv.lx (qs:=[vS a1.aa,vS a1.ak,vS a1.ag,vB a1.au,vI a2.bJ,vS a2.b9]) (css:=[bz.enc a1,Pos.enc a2]) Q T Gy pl83 z83 Q ⟨(bn (bz.K.one _)),⟨(bn (Pos.K.one _)),T⟩⟩ Q Q<|Dv.lit MK.K ([(⟨a1,a2⟩:MK)]:List MK) (css:=[[vS a1.aa,vS a1.ak,vS a1.ag,vB a1.au,vI a2.bJ,vS a2.b9]]) Q T yF Gy JH z83 Q dc dc Q ⟨(bn (an (aj Q) (an (aj Q) (an (aj Q) (an (aj Q) (an (aj Q) (an (aj Q) b8))))))),T⟩ Q Q Q<|gr H fun gn H=>ap MK.K 0 ([(⟨a1,a2⟩:MK)]:List MK) bY yF (.inr ⟨_,yF⟩) Cy gn nofun fun vd=>?_
 refine go 1<|wr 7 16<|go 3<|gr H fun gu H=>Dv.sls Q T Q yF Gy JH (fa Q gu.1) dG gu.2.1 gu.2.2<|gr H fun gv H=>ap MK.K 0 ((a0.take a0.length).drop pa.1.toNat) bY yF (.inr ⟨_,yF⟩) Cy gv nofun fun ve=>?_
 refine go 2<|WP.gh (eF (E':=[(6,sl MK.K (((([]:List MK)++((a0.take pa.1.toNat).drop 0))++([(⟨a1,a2⟩:MK)]:List MK))++((a0.take a0.length).drop pa.1.toNat))),(7,vB true)]) (l':=[ay bc 81 (Pos.enc a2),ay ba 79 (bz.enc a1)]++F) 0 Q (ah Q dm (ah Q ao cT)) (bP (.cons av (.cons av .nil)) fun _=>av)) (fun _ _=>?_)
 cases H.out; exact ek 2
theorem pz.c (h:pz.f a0=some r):Pt prog 40 [agg (ai.enc a0)] (agg (bz.enc r)):=by
 refine pf func40 h fun R0 F H=>?_
 refine wr 2 3<|Dv.box Q T Q cA nofun fun ba=>al Q T zc79 nofun fun bc=>.fin<|wr 10 512<|gl 8 [1,1,1,1]<|Dv.lx (qs:=[vS a0.aa,vS a0.ak,vS a0.ag,vB a0.au]) (css:=[[vS a0.aa],[vS a0.ak],[vS a0.ag],[vB a0.au]]) Q T U79 pl79 z79 Q ⟨(cells_one (aj Q)),⟨(cells_one (aj Q)),⟨(cells_one (aj Q)),⟨(cells_one (aj Q)),T⟩⟩⟩⟩ Q Q<|sy 0 ?_
 refine .fin ?_
 cases H.out; exact r2 i2 Q (.cons (aw Q U79 Q KH (ab 0 Q) Q) .nil)
theorem lS.c (h:lS.f k a0=some r):Pt prog 151 [vS a0] (vB r):=by
 refine pf func151 h fun R0 F H=>?_
 refine so<|wr 3 0<|go 1<|el H fun ta haa H=>cl Q (cL 150) Q (bW.c haa)<|go 1<|wr 10 0<|gp 3 ?_
 cases cc:decide (a0=eE)
 rotate_left
 ·
  have H:=H.ct cc
  refine gq 7 ?_
  cases H.out; exact ek 0
 have H:=H.cf cc
 refine gp 4 ?_
 cases cg:decide (a0=(⟨#[109,97,105,110]⟩:BA))
 rotate_left
 ·
  have H:=H.ct cg
  refine gq 3 ?_
  cases H.out; exact ek 0
 have H:=H.cf cg
 refine gq 3 ?_
 cases H.out; exact ek 0
theorem fH.c (h:fH.f k a0=some r):Pt prog 92 [agg (ai.enc a0)] (vB r):=by
 refine pf func92 h fun R0 F H=>?_
 refine wr 2 1<|Dv.box Q T Q cA nofun fun ba=>go 1<|wr 4 0<|gl 2 [0]<|el H fun ta haa H=>cl Q (cL 149) Q (hJ.c haa)<|go 1<|wr 4 0<|gl 2 [0]<|el H fun tc hac H=>cl Q (cL 149) Q (hJ.c hac)<|go 1<|wr 4 0<|gl 2 [0]<|el H fun te had H=>cl Q (cL 150) Q (bW.c had)<|go 1<|wr 4 0<|gl 2 [0]<|el H fun tg hae H=>cl Q (cL 151) Q (lS.c hae)<|go 1<|WP.seq<|wr 22 0<|gp 3 ?_
 cases cc:!ta
 rotate_left
 ·
  have H:=H.ct cc
  refine go 19<|WP.cond Q (fun _=>?_) nofun
  refine sp ?_
  cases H.out; exact ek 1
 have H:=H.cf cc
 refine kW 5 [0] ?_
 cases cg:decide (a0.aQ<0)
 rotate_left
 ·
  have H:=H.ct cg
  refine go 14<|WP.cond Q (fun _=>?_) nofun
  refine sp ?_
  cases H.out; exact ek 1
 have H:=H.cf cg
 refine kW 5 [0] ?_
 cases ci:decide (1099511627776<a0.aQ)
 rotate_left
 ·
  have H:=H.ct ci
  refine go 9<|WP.cond Q (fun _=>?_) nofun
  refine sp ?_
  cases H.out; exact ek 1
 have H:=H.cf ci
 refine kW 5 [0] ?_
 cases cj:decide (a0.aX<0)
 rotate_left
 ·
  have H:=H.ct cj
  refine go 4<|WP.cond Q (fun _=>?_) nofun
  refine sp ?_
  cases H.out; exact ek 1
 have H:=H.cf cj
 refine gl 4 [0]<|ce H ?_ ?_ <;> intro H
 ·
  refine sp ?_
  cases H.out; exact ek 1
 refine WP.skip<|WP.seq<|sf [0]<|WP.block<|so<|ce H ?_ ?_ <;> intro H
 ·
  refine wr 23 0<|gp 2 ?_
  cases ck:tc
  ·
   have H:=H.cf ck
   refine gq 21 ?_
   cases H.out; exact ek 1
  have H:=H.ct ck
  refine gp 3 ?_
  cases cn:te
  ·
   have H:=H.cf cn
   refine gq 18 ?_
   cases H.out; exact ek 1
  have H:=H.ct cn
  refine gp 3 ?_
  cases co:tg
  ·
   have H:=H.cf co
   refine gq 15 ?_
   cases H.out; exact ek 1
  have H:=H.ct co
  refine kW 5 [0] ?_
  cases cp:!a0.jX
  ·
   have H:=H.cf cp
   refine gq 10 ?_
   cases H.out; exact ek 1
  have H:=H.ct cp
  refine kW 5 [0] ?_
  cases cq:(a0.bV==0)
  ·
   have H:=H.cf cq
   refine gq 5 ?_
   cases H.out; exact ek 1
  have H:=H.ct cq
  refine FW 5 [0] ?_
  cases H.out; exact ek 1
 refine so<|ce H ?_ ?_ <;> intro H
 rotate_left
 ·
  refine so<|ce H ?_ ?_ <;> intro H
  rotate_left
  ·
   refine WP.skip<|sp ?_
   cases H.out; exact ek 1
  refine wr 39 0<|kW 4 [0] ?_
  cases cr:decide (a0.aa=eE)
  ·
   have H:=H.cf cr
   refine gq 35 ?_
   cases H.out; exact ek 1
  have H:=H.ct cr
  refine kW 5 [0] ?_
  cases cu:decide (a0.bB=eE)
  ·
   have H:=H.cf cu
   refine gq 30 ?_
   cases H.out; exact ek 1
  have H:=H.ct cu
  refine kW 5 [0] ?_
  cases cw:decide (a0.ag=eE)
  ·
   have H:=H.cf cw
   refine gq 25 ?_
   cases H.out; exact ek 1
  have H:=H.ct cw
  refine kW 5 [0] ?_
  cases cy:!a0.jX
  ·
   have H:=H.cf cy
   refine gq 20 ?_
   cases H.out; exact ek 1
  have H:=H.ct cy
  refine kW 5 [0] ?_
  cases cz:(a0.bV==0)
  ·
   have H:=H.cf cz
   refine gq 15 ?_
   cases H.out; exact ek 1
  have H:=H.ct cz
  refine kW 5 [0] ?_
  cases caa:!a0.au
  ·
   have H:=H.cf caa
   refine gq 10 ?_
   cases H.out; exact ek 1
  have H:=H.ct caa
  refine kW 5 [0] ?_
  cases cab:decide (0≤a0.aU)
  ·
   have H:=H.cf cab
   refine gq 5 ?_
   cases H.out; exact ek 1
  have H:=H.ct cab
  refine FW 5 [0] ?_
  cases H.out; exact ek 1
 refine wr 23 0<|kW 3 [0] ?_
 cases cac:a0.jX
 ·
  have H:=H.cf cac
  refine kW 14 [0] ?_
  cases cad:!a0.jX
  ·
   have H:=H.cf cad
   refine go 6<|wr 25 0<|gp 2 ?_
   cases cae:tc
   ·
    have H:=H.cf cae
    refine gq 23 ?_
    cases H.out; exact ek 1
   have H:=H.ct cae
   refine gq 23 ?_
   cases H.out; exact ek 1
  have H:=H.ct cad
  refine gl 6 [0]<|wr 25 0<|gp 2 ?_
  cases caf:tc
  ·
   have H:=H.cf caf
   refine gq 23 ?_
   cases H.out; exact ek 1
  have H:=H.ct caf
  refine gp 3 ?_
  cases cag:(a0.bV==0)
  ·
   have H:=H.cf cag
   refine gq 20 ?_
   cases H.out; exact ek 1
  have H:=H.ct cag
  refine kW 5 [0] ?_
  cases cah:decide (a0.bB=eE)
  ·
   have H:=H.cf cah
   refine gq 15 ?_
   cases H.out; exact ek 1
  have H:=H.ct cah
  refine kW 5 [0] ?_
  cases cai:decide (a0.ag=eE)
  ·
   have H:=H.cf cai
   refine gq 10 ?_
   cases H.out; exact ek 1
  have H:=H.ct cai
  refine kW 5 [0] ?_
  cases caj:(a0.aU==0)
  ·
   have H:=H.cf caj
   refine gq 5 ?_
   cases H.out; exact ek 1
  have H:=H.ct caj
  refine FW 5 [0] ?_
  cases H.out; exact ek 1
 have H:=H.ct cac
 refine kW 5 [0] ?_
 cases cak:decide (1≤a0.bV)
 ·
  have H:=H.cf cak
  refine kW 9 [0] ?_
  cases cal:!a0.jX
  ·
   have H:=H.cf cal
   refine go 6<|wr 25 0<|gp 2 ?_
   cases cam:tc
   ·
    have H:=H.cf cam
    refine gq 23 ?_
    cases H.out; exact ek 1
   have H:=H.ct cam
   refine gq 23 ?_
   cases H.out; exact ek 1
  have H:=H.ct cal
  refine gl 6 [0]<|wr 25 0<|gp 2 ?_
  cases can:tc
  ·
   have H:=H.cf can
   refine gq 23 ?_
   cases H.out; exact ek 1
  have H:=H.ct can
  refine gp 3 ?_
  cases cao:(a0.bV==0)
  ·
   have H:=H.cf cao
   refine gq 20 ?_
   cases H.out; exact ek 1
  have H:=H.ct cao
  refine kW 5 [0] ?_
  cases caq:decide (a0.bB=eE)
  ·
   have H:=H.cf caq
   refine gq 15 ?_
   cases H.out; exact ek 1
  have H:=H.ct caq
  refine kW 5 [0] ?_
  cases car:decide (a0.ag=eE)
  ·
   have H:=H.cf car
   refine gq 10 ?_
   cases H.out; exact ek 1
  have H:=H.ct car
  refine kW 5 [0] ?_
  cases cas:(a0.aU==0)
  ·
   have H:=H.cf cas
   refine gq 5 ?_
   cases H.out; exact ek 1
  have H:=H.ct cas
  refine FW 5 [0] ?_
  cases H.out; exact ek 1
 have H:=H.ct cak
 refine kW 5 [0] ?_
 cases cat:decide (a0.bV≤60)
 rotate_left
 ·
  have H:=H.ct cat
  refine go 10<|wr 25 0<|gp 2 ?_
  cases cau:tc
  ·
   have H:=H.cf cau
   refine gq 23 ?_
   cases H.out; exact ek 1
  have H:=H.ct cau
  refine kW 8 [0] ?_
  cases cav:decide (a0.bB=eE)
  ·
   have H:=H.cf cav
   refine gq 15 ?_
   cases H.out; exact ek 1
  have H:=H.ct cav
  refine kW 5 [0] ?_
  cases caw:decide (a0.ag=eE)
  ·
   have H:=H.cf caw
   refine gq 10 ?_
   cases H.out; exact ek 1
  have H:=H.ct caw
  refine kW 5 [0] ?_
  cases cax:(a0.aU==0)
  ·
   have H:=H.cf cax
   refine gq 5 ?_
   cases H.out; exact ek 1
  have H:=H.ct cax
  refine FW 5 [0] ?_
  cases H.out; exact ek 1
 have H:=H.cf cat
 refine kW 4 [0] ?_
 cases cay:!a0.jX
 ·
  have H:=H.cf cay
  refine go 6<|wr 25 0<|gp 2 ?_
  cases caz:tc
  ·
   have H:=H.cf caz
   refine gq 23 ?_
   cases H.out; exact ek 1
  have H:=H.ct caz
  refine gq 23 ?_
  cases H.out; exact ek 1
 have H:=H.ct cay
 refine gl 6 [0]<|wr 25 0<|gp 2 ?_
 cases cba:tc
 ·
  have H:=H.cf cba
  refine gq 23 ?_
  cases H.out; exact ek 1
 have H:=H.ct cba
 refine gp 3 ?_
 cases cbb:(a0.bV==0)
 ·
  have H:=H.cf cbb
  refine gq 20 ?_
  cases H.out; exact ek 1
 have H:=H.ct cbb
 refine kW 5 [0] ?_
 cases cbc:decide (a0.bB=eE)
 ·
  have H:=H.cf cbc
  refine gq 15 ?_
  cases H.out; exact ek 1
 have H:=H.ct cbc
 refine kW 5 [0] ?_
 cases cbd:decide (a0.ag=eE)
 ·
  have H:=H.cf cbd
  refine gq 10 ?_
  cases H.out; exact ek 1
 have H:=H.ct cbd
 refine kW 5 [0] ?_
 cases cbe:(a0.aU==0)
 ·
  have H:=H.cf cbe
  refine gq 5 ?_
  cases H.out; exact ek 1
 have H:=H.ct cbe
 refine FW 5 [0] ?_
 cases H.out; exact ek 1
theorem oq.c (h:oq.f k a0 a1 a2 a3=some r):Pt prog 93 [agg (bq.enc a0),vS a1,vS a2,vS a3] (vI r):=by
 refine pf func93 h fun R0 F H=>?_
 refine wr 2 1<|Dv.box Q T Q cA nofun fun ba=>go 1<|wr 5 24<|gl 2 [0]<|el H fun ta haa H=>cl Q (cL 77) Q (gZ.c haa)<|al Q T ow nofun fun bc=>sy 0 ?_
 refine .fin<|wr 4 0<|gl 2 [0]<|el H fun tc hac H=>cl Q (cL 148) Q (eC.c hac)<|go 1<|WP.seq<|so<|ce H ?_ ?_ <;> intro H
 ·
  refine sp ?_
  cases H.out; exact ek 2
 refine WP.skip<|wr 7 0<|gl 3 [0]<|gr H fun ga H=>Dv.kg Q T Q Q py km mK ga.1 ga.2<|fr Q T Q xr Q<|lM Q T Q o9 Q<|go 1<|WP.seq<|wr 24 0<|gp 3 ?_
 cases cc:decide (a3=eE)
 rotate_left
 ·
  have H:=H.ct cc
  refine go 21<|WP.cond Q (fun _=>?_) nofun
  refine sp ?_
  cases H.out; exact ek 2
 have H:=H.cf cc
 refine gp 5 ?_
 cases cg:decide (a3=a2)
 rotate_left
 ·
  have H:=H.ct cg
  refine go 16<|WP.cond Q (fun _=>?_) nofun
  refine sp ?_
  cases H.out; exact ek 2
 have H:=H.cf cg
 refine gp 3 ?_
 cases ci:decide (a3=(⟨#[109,97,105,110]⟩:BA))
 ·
  have H:=H.cf ci
  refine gp 8 ?_
  cases cj:!decide (((Event.K.at ta.fL tc).ag)=eE)
  ·
   have H:=H.cf cj
   refine go 5<|WP.cond Q nofun (fun _=>?_)
   refine WP.skip<|sp ?_
   cases H.out; exact ek 2
  have H:=H.ct cj
  refine go 5<|ce H ?_ ?_ <;> intro H
  ·
   refine sp ?_
   cases H.out; exact ek 2
  refine WP.skip<|sp ?_
  cases H.out; exact ek 2
 have H:=H.ct ci
 refine gp 5 ?_
 cases ck:decide (((Event.K.at ta.fL tc).ag)=eE)
 rotate_left
 ·
  have H:=H.ct ck
  refine go 8<|WP.cond Q (fun _=>?_) nofun
  refine sp ?_
  cases H.out; exact ek 2
 have H:=H.cf ck
 refine gp 3 ?_
 cases cn:!decide (((Event.K.at ta.fL tc).ag)=eE)
 ·
  have H:=H.cf cn
  refine go 5<|WP.cond Q nofun (fun _=>?_)
  refine WP.skip<|sp ?_
  cases H.out; exact ek 2
 have H:=H.ct cn
 refine go 5<|ce H ?_ ?_ <;> intro H
 ·
  refine sp ?_
  cases H.out; exact ek 2
 refine WP.skip<|sp ?_
 cases H.out; exact ek 2
theorem ko.c (h:ko.f k a0 a1=some r):Pt prog 94 [agg (mI.enc a0),agg (ai.enc a1)] (kR [agg (mI.enc r.1),agg (ai.enc r.2.1),vB r.2.2]):=by
 refine pf func94 h fun R0 F H=>?_
 refine wr 5 15<|Dv.box Q T Q cA nofun fun ba=>Dv.box Q T Q cA nofun fun bc=>al Q T I8 nofun fun bd=>al Q T uC nofun fun be=>go 1<|WP.kN H id (fun pa=>[(2,bO ba),(3,bO bc),(4,bO bd),(5,bO be)]) (fun pa=>[ay be 52 [vI 0,vS eE,vS eE,vS eE,vS eE,vB false,vB false,vI 0,vI 0,vI 0,vI 0],ay bd 118 [vI 0,dY,vI 0],ay bc 52 (ai.enc a1),ay ba 118 (mI.enc a0)]++F) (fun pa H=>?_) (fun H=>?_)
 rotate_left
 ·
  refine so<|WP.block<|ws 4 [0,1,2,3] 0 ?_
  refine lp (fun j_ (pc:Int)=>ko.l0 k a0 a1 j_ pc) 0 H (fun pc=>[(2,bO ba),(3,bO bc),(4,bO bd),(5,bO be),(7,vI pc)]) (fun pc=>[ay be 52 [vI 0,vS eE,vS eE,vS eE,vS eE,vB false,vB false,vI 0,vI 0,vI 0,vI 0],ay bd 118 [vI 0,dY,vI 0],ay bc 52 (ai.enc a1),ay ba 118 (mI.enc a0)]++F) ?_
  rintro j_ xa H
  rcases j_ with _ | ja
  ·
   exact (aZ.no H).elim
  try dsimp only at H
  rw [ko.l0] at H
  refine WP.seq<|wr 5 0<|gl 3 [3]<|Dv.jN Q T Q fF<|go 1<|ce H ?_ ?_ <;> intro H
  rotate_left
  ·
   refine WP.exit ?_
   have H:=H.out
   exact jn (xa,decide (xa<(a0.fL.length:Int))) H
  refine WP.skip<|WP.seq<|WP.block<|wd mX 7 0<|gl 3 [3]<|gr H fun ga H=>Dv.kg Q T Q Q fF ir iW ga.1 ga.2<|oz Q T Q vP Q<|gl 1 [2]<|Dv.eqs [.int .i64 ((ai.K.at a0.fL xa).aE),.string ((ai.K.at a0.fL xa).aa),.string ((ai.K.at a0.fL xa).ak),.string ((ai.K.at a0.fL xa).bB),.string ((ai.K.at a0.fL xa).ag),.bool ((ai.K.at a0.fL xa).au),.bool ((ai.K.at a0.fL xa).jX),.int .i64 ((ai.K.at a0.fL xa).bV),.int .i64 ((ai.K.at a0.fL xa).aU),.int .i64 ((ai.K.at a0.fL xa).aQ),.int .i64 ((ai.K.at a0.fL xa).aX)] [.int .i64 a1.aE,.string a1.aa,.string a1.ak,.string a1.bB,.string a1.ag,.bool a1.au,.bool a1.jX,.int .i64 a1.bV,.int .i64 a1.aU,.int .i64 a1.aQ,.int .i64 a1.aX] Q T Q Q Q Q HH (fun _=>nE 2 dc (fun _=>Cc (ai.K.at a0.fL xa) a1))<|.fin<|ce H ?_ ?_ <;> intro H
  rotate_left
  ·
   exact WP.skip<|rg 3 0<|go 3<|bk ja (ax (xa+1)) H
  refine wr 5 12<|gl 1 [3]<|Dv.lx (qs:=[vI 0,vS eE,vS eE,vS eE,vS eE,vB false,vB false,vI 0,vI 0,vI 0,vI 0]) (css:=[]) Q T ir Bk uW Q T Q Q<|sy 1 ?_
  refine sy 0 ?_
  refine gq 1 ?_
  have H:=H.fW
  cases H.out; exact r4 i2 Q (.cons (aw Q AO Q GS (ab 1 Q) Q) (.cons (aw Q ir Q iW (ab 0 Q) Q) (.cons (aG Q) .nil)))
 refine so<|wr 5 8<|gl 3 [3]<|vg (eX ai.K none) fun _ _=>?_
 refine gr H fun gb H=>ap ai.K 0 a0.fL bY fF (.inr ⟨_,fF⟩) nt gb nofun fun va=>?_
 refine go 1<|wr 5 8<|gl 2 [3]<|Dv.lit ai.K ([a1]:List ai) (css:=[ai.enc a1]) Q T fF ir iW uW Q dc dc Q ⟨(bn (ai.K.one _)),T⟩ Q Q Q<|gr H fun gi H=>ap ai.K 0 ([a1]:List ai) bY fF (.inr ⟨_,fF⟩) nt gi nofun fun vb=>?_
 refine go 1<|WP.seq<|wr 5 0<|go 1<|Dv.kG Q T Q (ab 0 Q) fF<|gl 3 [4]<|ce H ?_ ?_ <;> intro H
 rotate_left
 ·
  refine WP.skip<|wr 10 384<|gl 5 [4,4]<|Dv.lx (qs:=[vI a0.nS,eq vb.1,vI a0.o5]) (css:=[[vI a0.nS],[eq vb.1],[vI a0.o5]]) Q T AO FU G8 Q ⟨(cells_one (aj Q)),⟨(cells_one bQ),⟨(cells_one (aj Q)),T⟩⟩⟩ Q Q<|Dv.lx (qs:=[vI 0,vS eE,vS eE,vS eE,vS eE,vB false,vB false,vI 0,vI 0,vI 0,vI 0]) (css:=[]) Q T ir Bk uW Q T Q Q<|sy 2 ?_
  refine sy 1 ?_
  refine go 1<|WP.gh (eF (E':=[(4,bO bd),(5,bO be),(6,vB false)]) (l':=[ay be 52 [vI 0,vS eE,vS eE,vS eE,vS eE,vB false,vB false,vI 0,vI 0,vI 0,vI 0],ay bd 118 [vI a0.nS,sl ai.K ((([]:List ai)++a0.fL)++([a1]:List ai)),vI a0.o5],ay bc 52 (ai.enc a1),ay ba 118 (mI.enc a0)]++F) 0 Q (ah Q ao (ah Q ao (ah Q ao cT))) (bP (.cons av (.cons (cJ (.cons ao (.cons dm (.cons ao .nil)))) (.cons av (.cons av .nil)))) fun _=>av)) (fun _ _=>?_)
  cases H.out; exact r4 i2 Q (.cons (aw Q AO Q GS (ab 1 Q) Q) (.cons (aw Q ir Q iW (ab 0 Q) Q) (.cons (aG Q) .nil)))
 refine WP.seq<|WP.gh (eF (E':=[(2,bO ba),(3,bO bc),(4,bO bd),(5,bO be),(8,sl ai.K ((([]:List ai)++a0.fL)++([a1]:List ai))),(37,vB (decide (a0.nS<(((([]:List ai)++a0.fL)++([a1]:List ai)).length:Int))))]) (l':=[ay be 52 [vI 0,vS eE,vS eE,vS eE,vS eE,vB false,vB false,vI 0,vI 0,vI 0,vI 0],ay bd 118 [vI 0,dY,vI 0],ay bc 52 (ai.enc a1),ay ba 118 (mI.enc a0)]++F) 0 Q (ah Q ao (ah Q ao (ah Q ao (ah Q ao (ah Q dm (ah Q ao cT)))))) (bP (.cons av (.cons av (.cons av (.cons av .nil)))) fun _=>av)) (fun _ _=>?_)
 refine dg mX 14 6144<|gl 3 [3]<|gr H fun gj H=>Dv.sls Q T Q fF ir iW (fa Q gj.1) dG gj.2.1 gj.2.2<|gl 3 [3]<|Dv.lx (qs:=[vI a0.nS,sl ai.K ((((([]:List ai)++a0.fL)++([a1]:List ai)).take (((([]:List ai)++a0.fL)++([a1]:List ai)).length)).drop ((1:Int).toNat)),vI (ax (a0.o5+1))]) (css:=[[vI a0.nS],[sl ai.K ((((([]:List ai)++a0.fL)++([a1]:List ai)).take (((([]:List ai)++a0.fL)++([a1]:List ai)).length)).drop ((1:Int).toNat))],[vI (ax (a0.o5+1))]]) Q T AO FU G8 Q ⟨(cells_one (aj Q)),⟨(cells_one dQ),⟨(cells_one (aj Q)),T⟩⟩⟩ Q Q<|go 1<|gr H fun gk H=>Dv.kg Q T Q Q fF ir iW gk.1 gk.2<|oz Q T Q vP Q<|sx 1 Q T Q Q cA sz118 Q Q Q pD ?_
 refine sv 0 ?_
 refine gq 1 ?_
 cases H.out; exact r4 i2 Q (.cons (aw Q AO Q GS (ab 1 Q) Q) (.cons (aw Q ir Q iW (ab 0 Q) Q) (.cons (aG Q) .nil)))
end Go.Proofs.YtfknmdelgepbjaaGreatDoor
