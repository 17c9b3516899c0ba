import Derived.Test.YtfknmdelgepbjaaGreatDoorZTab
import Derived.Test.YtfknmdelgepbjaaGreatDoorZMir
import Derived.Test.YtfknmdelgepbjaaGreatDoorConQ
import Derived.Test.YtfknmdelgepbjaaGreatDoorConA6
import Derived.Test.YtfknmdelgepbjaaGreatDoorConC4
import Derived.Lib.Join
import Derived.Eval
import Derived.Test.YtfknmdelgepbjaaGreatDoorZShelf
set_option linter.all false
set_option autoImplicit true
set_option maxRecDepth 10000
set_option maxHeartbeats 20000000
namespace Go.Proofs.YtfknmdelgepbjaaGreatDoor
open Go Go.Sp Tryz
theorem rq.c (h:rq.f a0=some r):Tr prog 84 [vI a0] [] (γ:=OV) (fun _=>True) (fun g=>kN [eq g.1,vI r.2]) (fun g=>[DC jk.O g r.1]):=by
 refine tf func84 h fun R0 F H=>?_
 refine so<|WP.seq<|wr 6 0<|gp 3 ?_
 cases c1:decide (a0<1)
 rotate_left
 ·
  have H:=H.ct c1
  refine go 3<|WP.cond Q (fun _=>?_) nofun
  refine so<|wg (nR (O:=jk.O)) fun _ _=>?_
  cases H.out; exact et iS 1 [0] 0
 have H:=H.cf c1
 refine go 3<|ce H ?_ ?_ <;> intro H
 ·
  refine so<|wg (nR (O:=jk.O)) fun _ _=>?_
  cases H.out; exact et iS 1 [0] 0
 refine WP.skip<|wr 5 4<|go 1<|Dv.lp (qs:=[vI a0,eN,vI 0]) (css:=[[vI a0]]) Q T GW pl247 z247 Q ⟨(cells_one (ah Q)),T⟩ Q Q<|Dv.box Q T Q cA nofun fun b4=>go 2<|wg (eD ak.K none) fun _ _=>?_
 refine wg (jk.shut (p:=(⟨.pointer (some ⟨b4,0,none⟩),Q⟩:OV)) (m:=(⟨a0,([]:List ak),0⟩:jk)) (b4,lA) Q (pm 2 [1,0])) fun _ _=>?_
 cases H.out; exact et (⟨.pointer (some ⟨b4,0,none⟩),Q⟩:OV) 1 [0] 0
theorem nP.c (h:nP.f=some r):Tr prog 85 [] [] (γ:=OV) (fun _=>True) (fun g=>eq g.1) (fun g=>[jO.O g r]):=by
 refine tf func85 h fun R0 F H=>?_
 refine so<|wr 4 5<|Dv.KO bx.kv (fun x:Pos=>agg (Pos.enc x)) Q T nofun (fun v5=>?_)
 refine Dv.lp (qs:=[eq v5.1]) (css:=[[eq v5.1]]) Q T U250 pl250 z250 Q ⟨(cells_one bK),T⟩ Q Q<|Dv.box Q T Q cA nofun fun b6=>go 1<|wg (jO.shut (p:=(⟨.pointer (some ⟨b6,0,none⟩),Q⟩:OV)) (m:=(⟨([]:List (bx×Pos))⟩:jO)) (b6,v5) Q (pm 2 [0,1])) fun _ _=>?_
 cases H.out; exact et (⟨.pointer (some ⟨b6,0,none⟩),Q⟩:OV) 1 [0] 0
theorem oh.c (h:oh.f a0=some r):Tr prog 30 [vI a0] [] (γ:=OV) (fun _=>True) (fun g=>kN [eq g.1,vI r.2]) (fun g=>[DC jF.O g r.1]):=by
 refine tf func30 h fun R0 F H=>?_
 refine so<|wr 7 2<|go 1<|el H fun t7 h8 H=>cx 0 [] (cL 84) (rq.c h8) nofun fun g9 _=>?_
 refine go 1<|ei Q T Q Q<|ei Q T Q Q<|go 2<|WP.seq<|so<|ce H ?_ ?_ <;> intro H
 ·
  refine so<|wg (nR (O:=jF.O)) fun _ _=>?_
  cases H.out; exact et iS 2 [1,0] 1
 refine WP.skip<|wr 6 9<|el H fun t11 h12 H=>cx 1 [0] (cL 85) (nP.c h12) nofun fun g13 _=>?_
 refine go 1<|gr H fun g14 H=>vg (rJ 1 Q (isN g14)) fun _ _=>?_
 refine Dv.lp (qs:=[eq g13.1,eq g9.1]) (css:=[[eq g13.1],[eq g9.1]]) Q T J4 pl177 z177 Q ⟨(cells_one bK),⟨(cells_one bK),T⟩⟩ Q Q<|Dv.box Q T Q cA nofun fun b15=>go 2<|wg (jF.shut (p:=(⟨.pointer (some ⟨b15,0,none⟩),Q⟩:OV)) (m:=(⟨t11,t7.1.getD default⟩:jF)) (b15,g13,g9) Q (pm 3 [0,2,1])) fun _ _=>?_
 cases H.out; exact et (⟨.pointer (some ⟨b15,0,none⟩),Q⟩:OV) 1 [0] 0
theorem qX.c {b off:Nat} {bT:TypeId} {qs:Cs} {m:Int} (h0:off<qs.length):Tr prog 141 [eq (.pointer (some ⟨b,off,none⟩)),vI m] [aI b bT qs] (γ:=Unit) (fun _=>True) (fun _=>kN []) (fun _=>[aI b bT (qs.set off (vI m))]):=by
 exact Tr.body func141 (c:=_) Q ntmps141 (Nat.le_of_ble_eq_true Q) fun R0 F=>WP.qL [(0,false),(1,false),(2,false),(3,false),(4,true)] kr<|go 4<|Dv.I7 (jj:=0) (qs:=qs) Q T Q (Gn h0 func210 kr Q xf210 xg210) Q nofun<|.fin<|re Q () 1 [0] 0 .nil
theorem n9.c (h:n9.f a0 a1=some r):Tr prog 86 [vI a0,vI a1] [] (γ:=OV) (fun _=>True) (fun g=>kN [eq g.1,vI r.2]) (fun g=>[DC kI.O g r.1]):=by
 refine tf func86 h fun R0 F H=>?_
 refine so<|WP.seq<|wr 15 0<|gp 3 ?_
 cases c16:decide (a1<1)
 rotate_left
 ·
  have H:=H.ct c16
  refine go 12<|WP.cond Q (fun _=>?_) nofun
  refine so<|wg (nR (O:=kI.O)) fun _ _=>?_
  cases H.out; exact et iS 1 [0] 0
 have H:=H.cf c16
 refine gp 4 ?_
 cases c18:decide (1099511627776<a1)
 rotate_left
 ·
  have H:=H.ct c18
  refine go 8<|WP.cond Q (fun _=>?_) nofun
  refine so<|wg (nR (O:=kI.O)) fun _ _=>?_
  cases H.out; exact et iS 1 [0] 0
 have H:=H.cf c18
 refine gp 4 ?_
 cases c20:decide (a0<0)
 rotate_left
 ·
  have H:=H.ct c20
  refine go 4<|WP.cond Q (fun _=>?_) nofun
  refine so<|wg (nR (O:=kI.O)) fun _ _=>?_
  cases H.out; exact et iS 1 [0] 0
 have H:=H.cf c20
 refine go 4<|ce H ?_ ?_ <;> intro H
 ·
  refine so<|wg (nR (O:=kI.O)) fun _ _=>?_
  cases H.out; exact et iS 1 [0] 0
 refine WP.skip<|wr 4 4<|go 1<|Dv.lp (qs:=[vI 0,vI a1]) (css:=[[vI a1]]) Q T JE pl257 z257 Q ⟨(cells_one (ah Q)),T⟩ Q Q<|Dv.box Q T Q cA nofun fun b23=>go 1<|wr 5 16<|go 4<|cx 1 [0] (cL 141) (qX.c (b:=b23) (off:=0) (bT:=257) (qs:=[vI 0,vI a1]) (m:=a0) (Nat.le_of_ble_eq_true Q)) nofun fun _ _=>?_
 refine .fin<|so<|wg (kI.shut (p:=(⟨.pointer (some ⟨b23,0,none⟩),Q⟩:OV)) (m:=(⟨(⟨a0⟩:Bz),a1⟩:kI)) b23 Q (pm 1 [0])) fun _ _=>?_
 cases H.out; exact et (⟨.pointer (some ⟨b23,0,none⟩),Q⟩:OV) 1 [0] 0
theorem mZ.c (h:mZ.f a0 a1=some r):Tr prog 31 [vI a0,vI a1] [] (γ:=OV) (fun _=>True) (fun g=>kN [eq g.1,vI r.2]) (fun g=>[DC cH.O g r.1]):=by
 refine tf func31 h fun R0 F H=>?_
 refine so<|wr 8 4<|go 2<|el H fun t24 h25 H=>cx 0 [] (cL 86) (n9.c h25) nofun fun g26 _=>?_
 refine go 1<|ei Q T Q Q<|ei Q T Q Q<|go 2<|WP.seq<|so<|ce H ?_ ?_ <;> intro H
 ·
  refine so<|wg (nR (O:=cH.O)) fun _ _=>?_
  cases H.out; exact et iS 2 [1,0] 1
 refine WP.skip<|wr 6 10<|go 1<|Dv.KO Value.string (fun x:Int=>vI x) Q T nofun (fun v28=>?_)
 refine gr H fun g29 H=>vg (rJ 1 Q (isN g29)) fun _ _=>?_
 refine Dv.lp (qs:=[eq g26.1,eN,eq v28.1]) (css:=[[eq g26.1],[eq v28.1]]) Q T HG pl183 z183 Q ⟨(cells_one bK),⟨(cells_one bK),T⟩⟩ Q Q<|Dv.box Q T Q cA nofun fun b30=>go 2<|wg (eD aH none) fun _ _=>?_
 refine wg (cH.shut (p:=(⟨.pointer (some ⟨b30,0,none⟩),Q⟩:OV)) (m:=(⟨t24.1.getD default,([]:List BA),([]:List (BA×Int))⟩:cH)) (b30,g26,lA,v28) Q (pm 4 [1,2,0,3])) fun _ _=>?_
 cases H.out; exact et (⟨.pointer (some ⟨b30,0,none⟩),Q⟩:OV) 1 [0] 0
theorem rz.c (h:rz.f=some r):Tr prog 32 [] [] (γ:=OV) (fun _=>True) (fun g=>eq g.1) (fun g=>[aL.O g r]):=by
 refine tf func32 h fun R0 F H=>?_
 refine so<|wr 4 5<|Dv.KO Value.string (fun p:OV=>eq p.1) Q T nofun (fun v31=>?_)
 refine vg (CZ bf.O) fun _ _=>?_
 refine Dv.lp (qs:=[eq v31.1]) (css:=[[eq v31.1]]) Q T JF pl186 z186 Q ⟨(cells_one bK),T⟩ Q Q<|Dv.box Q T Q cA nofun fun b32=>go 1<|wg (aL.shut (p:=(⟨.pointer (some ⟨b32,0,none⟩),Q⟩:OV)) (m:=(⟨([]:List (BA×bf))⟩:aL)) (b32,v31) Q (pm 2 [0,1])) fun _ _=>?_
 cases H.out; exact et (⟨.pointer (some ⟨b32,0,none⟩),Q⟩:OV) 1 [0] 0
theorem og.c (h:og.f=some r):Tr prog 87 [] [] (γ:=OV) (fun _=>True) (fun g=>eq g.1) (fun g=>[aN.O g r]):=by
 refine tf func87 h fun R0 F H=>?_
 refine so<|wr 4 5<|Dv.KO Value.string (fun x:Int=>vI x) Q T nofun (fun v33=>?_)
 refine Dv.lp (qs:=[eN,eq v33.1]) (css:=[[eq v33.1]]) Q T KJ pl261 z261 Q ⟨(cells_one bK),T⟩ Q Q<|Dv.box Q T Q cA nofun fun b34=>go 1<|wg (eD di.K none) fun _ _=>?_
 refine wg (aN.shut (p:=(⟨.pointer (some ⟨b34,0,none⟩),Q⟩:OV)) (m:=(⟨([]:List di),([]:List (BA×Int))⟩:aN)) (b34,lA,v33) Q (pm 3 [1,0,2])) fun _ _=>?_
 cases H.out; exact et (⟨.pointer (some ⟨b34,0,none⟩),Q⟩:OV) 1 [0] 0
theorem nq.c (h:nq.f=some r):Tr prog 33 [] [] (γ:=OV) (fun _=>True) (fun g=>eq g.1) (fun g=>[bZ.O g r]):=by
 refine tf func33 h fun R0 F H=>?_
 refine so<|wr 4 5<|el H fun t35 h36 H=>cx 0 [] (cL 87) (og.c h36) nofun fun g37 _=>?_
 refine Dv.lp (qs:=[eN,eq g37.1]) (css:=[[eq g37.1]]) Q T J3 pl190 z190 Q ⟨(cells_one bK),T⟩ Q Q<|Dv.box Q T Q cA nofun fun b38=>go 1<|wg (eD ak.K none) fun _ _=>?_
 refine wg (bZ.shut (p:=(⟨.pointer (some ⟨b38,0,none⟩),Q⟩:OV)) (m:=(⟨([]:List ak),t35⟩:bZ)) (b38,lA,g37) Q (pm 3 [1,0,2])) fun _ _=>?_
 cases H.out; exact et (⟨.pointer (some ⟨b38,0,none⟩),Q⟩:OV) 1 [0] 0
theorem lB.c (h:lB.f=some r):Tr prog 34 [] [] (γ:=OV) (fun _=>True) (fun g=>eq g.1) (fun g=>[cI.O g r]):=by
 refine tf func34 h fun R0 F H=>?_
 refine so<|wr 4 5<|el H fun t39 h40 H=>cx 0 [] (cL 87) (og.c h40) nofun fun g41 _=>?_
 refine Dv.lp (qs:=[eN,eq g41.1]) (css:=[[eq g41.1]]) Q T JW pl192 z192 Q ⟨(cells_one bK),T⟩ Q Q<|Dv.box Q T Q cA nofun fun b42=>go 1<|wg (eD ak.K none) fun _ _=>?_
 refine wg (cI.shut (p:=(⟨.pointer (some ⟨b42,0,none⟩),Q⟩:OV)) (m:=(⟨([]:List ak),t39⟩:cI)) (b42,lA,g41) Q (pm 3 [1,0,2])) fun _ _=>?_
 cases H.out; exact et (⟨.pointer (some ⟨b42,0,none⟩),Q⟩:OV) 1 [0] 0
theorem tP.c (h:tP.f a0=some r):Tr prog 142 [vS a0] [] (γ:=OV) (fun _=>True) (fun g=>eq g.1) (fun g=>[bf.O g r]):=by
 refine tf func142 h fun R0 F H=>?_
 refine so<|wr 5 10<|go 1<|Dv.KO Value.string (fun p:OV=>eq p.1) Q T nofun (fun v43=>?_)
 refine vg (CZ aW.O) fun _ _=>?_
 refine Dv.lp (qs:=[vS a0,eq v43.1]) (css:=[[vS a0],[eq v43.1]]) Q T KL pl265 z265 Q ⟨(cells_one (ah Q)),⟨(cells_one bK),T⟩⟩ Q Q<|Dv.box Q T Q cA nofun fun b44=>go 1<|wg (bf.shut (p:=(⟨.pointer (some ⟨b44,0,none⟩),Q⟩:OV)) (m:=(⟨a0,([]:List (BA×aW))⟩:bf)) (b44,v43) Q (pm 2 [0,1])) fun _ _=>?_
 cases H.out; exact et (⟨.pointer (some ⟨b44,0,none⟩),Q⟩:OV) 1 [0] 0
theorem aO.r {a0:aL} {a1:BA} {r:bf} (h:aO.f a0 a1=some r):∀ x,mget a0.br a1=some x→x=r:=fun x e=>by
 unfold aO.f at h; rw [e] at h; exact Option.some.inj h
theorem aO.c {b0_:Nat} {v0_0:OV} {r:bf} (h:aO.f a0 a1=some r):Tr prog 88 [eP b0_,vS a1] [aI b0_ 186 [eq v0_0.1],km Value.string bf.O v0_0.1 a0.br] (γ:=OV) (fun _=>True) (fun g=>eq g.1) (fun g=>[aI b0_ 186 [eq v0_0.1],IZ Value.string bf.O v0_0.1 a0.br a1 g,bf.O g r]):=by
 refine tf func88 h fun R0 F H=>?_
 refine WP.seq<|WP.qL [(0,false)] kr<|go 1<|WP.seq<|WP.seq<|WP.qL [(0,false),(1,false),(2,false),(3,false),(4,false),(5,false),(6,false)] kr<|go 2<|Dv.fab Q T Q JF Q C7 FL dc<|Dv.ldb Q T Q C7 Q (ab 0 Q) Q<|go 1<|vg (mh 1 Q) fun z1 h1=>?_
 refine Dv.F6 iS Q T Q (ab 0 Q) Q C7 (dN U9) z193 (fun _=>Q)<|go 1<|WP.seq<|WP.qL [(0,false),(1,false)] kr<|go 1<|Dv.pm1 (Bi h1 Q) Q T Q Q U193<|.fin<|WP.cond Q (fun c1=>?_) (fun c1=>?_)
 ·
  have e1:(mget a0.br a1).isSome=true:=by cases e:mget a0.br a1 with | none=>rw [e] at c1; cases c1 | some _=>rfl
  have H:=H.ct e1
  obtain rfl:=aV.out H
  refine WP.seq<|WP.qL [(0,false),(1,false)] kr<|go 2<|wg (D1 h1 Q e1 (pm 3 [0,1,2])) fun _ _=>?_
  exact et ((mget (cZ a0.br z1) a1).getD iS) 3 [2,0,1] 0
 have e1:(mget a0.br a1).isSome=false:=by cases e:mget a0.br a1 with | none=>rfl | some _=>rw [e] at c1; cases c1
 have H:=H.cf e1
 refine WP.skip<|WP.seq<|WP.qL [(0,false),(1,true),(2,false)] kr<|go 1<|cx 0 [] (cL 142) (tP.c (by obtain ⟨_,e,rfl⟩:=H; exact e)) nofun fun g2 _=>?_
 refine go 1<|wg (EU g2 h1 Q e1 (pm 4 [1,2,0,3])) fun _ _=>?_
 exact et g2 3 [2,0,1] 0
theorem aX.c {X1_:As} (h:aX.f k a0 a1=some r):Tr prog 137 [sl aH a0,jW X1_ a1] [X1_] (γ:=Unit) (fun _=>True) (fun g=>vI r) (fun g=>[X1_]):=by
 refine tf func137 h fun R0 F H=>?_
 refine so<|sr H id [] (fun _=>[]) (fun _=>[]) (fun p54 H=>?_) (fun H=>?_)
 ·
  refine sp ?_
  cases H.out; exact et () 1 [0] 0
 refine wr 3 0<|go 1<|Dv.fg Q T Q dW<|go 1<|WP.block<|ws 1 [0] 0 ?_
 refine lq (fun j_ (p62:Int)=>aX.l0 k a0 a1 j_ p62) 0 H [0,1,7] (fun p62=>[(8,vI p62)]) (fun _=>[]) ?_
 rintro j_ x55 H
 rcases j_ with _ | j61
 ·
  exact (aV.no H).elim
 try dsimp only at H
 rw [aX.l0] at H
 refine so<|WP.seq<|cf H ?_ ?_ <;> intro H
 ·
  refine WP.exit ?_
  have H:=H.out
  exact jn (x55,decide (x55<(a0.length:Int))) H
 refine WP.skip<|WP.seq<|WP.block<|so<|wr 6 0<|go 3<|gr H fun g57 H=>Dv.iY Q T Q Q dW U9 c9 g57.1 g57.2<|mj Q T Q qt Q<|el H fun t58 h59 H=>Dv.BP (ret:=vB t58) (X:=X1_) (F:=F) Q T Q Q ⟨_,_,h59,Q,Q⟩ (mg (L:=[X1_]) (F:=F) [0] Q Q Q)<|.fin<|cf H ?_ ?_ <;> intro H
 ·
  exact WP.skip<|rg 2 0<|go 2<|bk j61 (aw (x55+1)) H
 refine sp ?_
 have H:=H.fH
 cases H.out; exact et () 1 [0] 0
theorem aA.c {X1_:As} {p0_:OV} (h:aA.f k a0 a1=some r):Tr prog 137 [eq p0_.1,jW X1_ a1] [own aH p0_.1 a0,X1_] (γ:=Unit) (fun _=>True) (fun g=>vI r) (fun g=>[own aH p0_.1 a0,X1_]):=by
 refine tf func137 h fun R0 F H=>?_
 refine so<|sr H id [] (fun _=>[]) (fun _=>[]) (fun p63 H=>?_) (fun H=>?_)
 ·
  refine sp ?_
  cases H.out; exact et () 2 [0,1] 0
 refine wr 3 0<|go 1<|Dv.kG Q T Q (ab 0 Q) dW<|go 1<|WP.block<|ws 2 [0,1] 0 ?_
 refine lq (fun j_ (p72:Int)=>aA.l0 k a0 a1 j_ p72) 0 H [0,1,7] (fun p72=>[(8,vI p72)]) (fun _=>[]) ?_
 rintro j_ x64 H
 rcases j_ with _ | j71
 ·
  exact (aV.no H).elim
 try dsimp only at H
 rw [aA.l0] at H
 refine so<|WP.seq<|cf H ?_ ?_ <;> intro H
 ·
  refine WP.exit ?_
  have H:=H.out
  exact jn (x64,decide (x64<(a0.length:Int))) H
 refine WP.skip<|WP.seq<|WP.block<|so<|wr 6 0<|go 3<|gr H fun g66 H=>?_
 have h67:x64.toNat<a0.length:=bE g66
 refine Dv.kA Q T Q (ab 0 Q) Q dW U9 c9 g66.1 g66.2<|Dv.o6 (j:=x64.toNat) (f:=0) (p:=vS (a0.getD x64.toNat default)) Q T Q (ab 0 Q) h67 U9 Q Q<|el H fun t68 h69 H=>Dv.BP (ret:=vB t68) (X:=X1_) (F:=[own aH p0_.1 a0]++F) Q T Q Q ⟨_,_,h69,Q,Q⟩ (mg (L:=[own aH p0_.1 a0,X1_]) (F:=F) [1,0] Q Q Q)<|.fin<|cf H ?_ ?_ <;> intro H
 ·
  exact WP.skip<|rg 2 0<|go 2<|bk j71 (aw (x64+1)) H
 refine sp ?_
 have H:=H.fH
 cases H.out; exact et () 2 [0,1] 0
theorem cD.c {X1_:As} (h:cD.f k a0 a1=some r):Tr prog 122 [sl aH a0,jW X1_ a1] [X1_] (γ:=Unit) (fun _=>True) (fun g=>vB r) (fun g=>[X1_]):=by
 refine tf func122 h fun R0 F H=>?_
 refine so<|wr 5 0<|go 2<|el H fun t75 h76 H=>px 1 [0] (cL 137) (aX.c h76 (X1_:=X1_)) ?_
 refine gq 2 ?_
 cases H.out; exact et () 1 [0] 0
theorem cQ.c {X1_:As} {p0_:OV} (h:cQ.f k a0 a1=some r):Tr prog 122 [eq p0_.1,jW X1_ a1] [own aH p0_.1 a0,X1_] (γ:=Unit) (fun _=>True) (fun g=>vB r) (fun g=>[own aH p0_.1 a0,X1_]):=by
 refine tf func122 h fun R0 F H=>?_
 refine so<|wr 5 0<|go 2<|el H fun t77 h78 H=>px 2 [0,1] (cL 137) (aA.c h78 (p0_:=p0_) (X1_:=X1_)) ?_
 refine gq 2 ?_
 cases H.out; exact et () 2 [0,1] 0
theorem fj.c (h:fj.f a0 a1=some r):Pt prog 295 [vS a0,vS a1] (vB r):=by
 refine pf func295 h fun R0 F H=>?_
 refine so<|wr 14 0<|go 1<|Dv.lens Q T Q U9<|go 1<|Dv.lens Q T Q U9<|gp 2 ?_
 cases Jj:decide ((a1.size:Int)≤(a0.size:Int))
 ·
  have H:=H.cf Jj
  refine gq 8 ?_
  cases H.out; exact ek 0
 have H:=H.ct Jj
 refine go 2<|Dv.lens Q (gg Q) Q U9<|gr H fun g80 H=>Dv.Hg Q (gg Q) Q U9 dC (eV Q g80.1) g80.2.1 g80.2.2<|gq 4 ?_
 cases H.out; exact ek 0
theorem fi.c (h:fi.f a0 a1=some r):Pt prog 276 [vS a0,vS a1] (kN [vS r.1,vB r.2]):=by
 refine pf func276 h fun R0 F H=>?_
 refine so<|WP.seq<|wr 4 0<|go 2<|el H fun t81 h82 H=>cl Q (cL 295) Q (fj.c h82)<|go 1<|ce H ?_ ?_ <;> intro H
 ·
  refine sp ?_
  cases H.out; exact ek 0
 refine WP.skip<|wr 6 0<|go 2<|Dv.lens Q T Q U9<|gr H fun g84 H=>Dv.Hg Q T Q U9 (eV Q g84.1) dC g84.2.1 g84.2.2<|gq 2 ?_
 cases H.out; exact ek 0
theorem eg.c (h:eg.f a0 a1=some r):Pt prog 254 [vS a0,vS a1] (kN [vS r.1,vB r.2]):=by
 refine pf func254 h fun R0 F H=>?_
 refine so<|wr 7 0<|go 2<|el H fun t85 h86 H=>cl Q (cL 276) Q (fi.c h86)<|ei Q T Q Q<|ei Q T Q Q<|gq 2 ?_
 cases H.out; exact ek 0
theorem iE.c (h:iE.f a0=some r):Pt prog 279 [eq (.int .u8 a0)] (vB r):=by
 refine pf func279 h fun R0 F H=>?_
 refine so<|wr 15 0<|gp 3 ?_
 cases c87:decide (97≤a0)
 ·
  have H:=H.cf c87
  refine gp 7 ?_
  cases c90:decide (48≤a0)
  ·
   have H:=H.cf c90
   refine gq 5 ?_
   cases H.out; exact ek 0
  have H:=H.ct c90
  refine gq 5 ?_
  cases H.out; exact ek 0
 have H:=H.ct c87
 refine gp 4 ?_
 cases c88:decide (a0≤122)
 rotate_left
 ·
  have H:=H.ct c88
  refine gq 8 ?_
  cases H.out; exact ek 0
 have H:=H.cf c88
 refine gp 3 ?_
 cases Jf:decide (48≤a0)
 ·
  have H:=H.cf Jf
  refine gq 5 ?_
  cases H.out; exact ek 0
 have H:=H.ct Jf
 refine gq 5 ?_
 cases H.out; exact ek 0
theorem dp.c (h:dp.f a0 a1=some r):Pt prog 281 [vS a0,eq (.int .u8 a1)] (vI r):=by
 refine pf func281 h fun R0 F H=>?_
 refine so<|wr 4 0<|go 2<|Dv.KB Q T Q (Eu func298 kr Q xf298 xg298)<|gq 1 ?_
 cases H.out; exact ek 0
theorem iw.c (h:iw.f a0 a1=some r):Pt prog 297 [vS a0,eq (.int .u8 a1)] (vI r):=by
 refine pf func297 h fun R0 F H=>?_
 refine so<|wr 4 0<|go 2<|el H fun t91 h92 H=>cl Q (cL 281) Q (dp.c h92)<|gq 1 ?_
 cases H.out; exact ek 0
theorem dV.c {c0:BA} (h:dV.f a0 c0=some r):Pt prog 296 [eq (.int .u8 a0),rp [vS c0]] (vB r):=by
 refine pf func296 h fun R0 F H=>?_
 refine so<|wr 9 0<|go 1<|el H fun t93 h94 H=>cl Q (cL 279) Q (iE.c h94)<|gp 1 ?_
 cases c95:t93
 rotate_left
 ·
  have H:=H.ct c95
  refine gq 6 ?_
  cases H.out; exact ek 0
 have H:=H.cf c95
 refine mj Q (gg Q) Q qt Q<|go 1<|el H fun t96 h97 H=>Dv.call Q (gg Q) (cL 297) Q (iw.c h97)<|gq 3 ?_
 cases H.out; exact ek 0
theorem jo.c (h:jo.f a0=some r):Pt prog 277 [vS a0] (gN r):=by
 refine pf func277 h fun R0 F H=>?_
 refine wr 2 1<|Dv.box Q T Q cE nofun fun b98=>go 1<|wr 2 0<|Dv.gh (rW (E':=[(0,vS a0),(1,rp [vS a0]),(2,eq .nilFunc)]) (l':=F) 0 Q (ar Q az (ar Q j4 (ar Q az jl))) (gC .nil fun _=>bU)) (fun _ _=>?_)
 refine Dv.mkf (Q:=qk (fun a0_=>dV.f a0_ a0)) (cL 296) (by rintro _ _ ⟨a0_,r_,h_,rfl,rfl⟩; exact dV.c h_) Q T Q Q<|gq 1 ?_
 cases H.out; exact ek 0
theorem dY.c (h:dY.f k a0 a1=some r):Pt prog 255 [vS a0,vI a1] (vB r):=by
 refine pf func255 h fun R0 F H=>?_
 refine so<|wr 7 0<|el H fun t99 haa H=>cl Q (cL 277) Q (jo.c haa)<|el H fun ta hac H=>cl Q (cL 277) Q (jo.c hac)<|el H fun tc had H=>cl Q (cL 277) Q (jo.c had)<|Dv.blda (qs:=[gN t99,gN ta,gN tc]) (css:=[[gN t99],[gN ta],[gN tc]]) Q T U382 U335 c335 z382 Q ⟨(cells_one nN),⟨(cells_one nN),⟨(cells_one nN),T⟩⟩⟩ Q Q<|go 1<|gr H fun ga H=>Dv.ixa (Kd:=nU) (xs:=([t99,ta,tc]:List (Int→Option Bool))) Q T Q Q Q U382 U335 Q c335 Q Q ga.1 ga.2 Q<|go 1<|sr H id [0] (fun _=>[]) (fun _=>[]) (fun pa H=>?_) (fun H=>?_)
 ·
  refine wr 8 0<|gp 3 ?_
  cases cc:!decide (a0=eE)
  ·
   have H:=H.cf cc
   refine gq 5 ?_
   cases H.out; exact ek 0
  have H:=H.ct cc
  refine go 1<|Dv.lens Q (gg Q) Q U9<|gq 3 ?_
  cases H.out; exact ek 0
 refine wr 3 0<|go 1<|Dv.lens Q T Q U9<|go 1<|WP.block<|ws 0 [] 0 ?_
 refine lq (fun j_ (pc:Int)=>dY.l0 k a0 a1 t99 ta tc j_ pc) 0 H [0,5,14] (fun pc=>[(15,vI pc)]) (fun _=>[]) ?_
 rintro j_ xc H
 rcases j_ with _ | ja
 ·
  exact (aV.no H).elim
 try dsimp only at H
 rw [dY.l0] at H
 refine so<|WP.seq<|cf H ?_ ?_ <;> intro H
 ·
  refine WP.exit ?_
  have H:=H.out
  exact jn (xc,decide (xc<(a0.size:Int))) H
 refine WP.skip<|WP.seq<|WP.block<|so<|wr 6 0<|go 3<|gr H fun gb H=>Dv.qq Q T Q Q U9 gb.1 gb.2<|el H fun te hae H=>Dv.rO (ret:=vB te) Q T Q Q ⟨_,_,hae,Q,Q⟩<|go 1<|cf H ?_ ?_ <;> intro H
 ·
  exact WP.skip<|rg 2 0<|go 2<|bk ja (aw (xc+1)) H
 refine sp ?_
 have H:=H.fH
 cases H.out; exact ek 0
theorem ee.c (h:ee.f a0 a1=some r):Pt prog 269 [vS a0,vS a1] (vI r):=by
 refine pf func269 h fun R0 F H=>?_
 refine so<|wr 3 0<|go 1<|Dv.lens Q T Q U9<|go 1<|WP.seq<|WP.block<|wr 8 0<|gp 3 ?_
 cases HU:((a1.size:Int)==0)
 rotate_left
 ·
  have H:=H.ct HU
  refine go 5<|WP.cond Q (fun _=>?_) nofun
  refine sp ?_
  cases H.out; exact ek 0
 have H:=H.cf HU
 refine go 5<|ce H ?_ ?_ <;> intro H
 ·
  refine sp ?_
  cases H.out; exact ek 0
 refine so<|ce H ?_ ?_ <;> intro H
 ·
  refine wr 5 0<|go 2<|gr H fun ga H=>Dv.qq Q T Q Q U9 ga.1 ga.2<|el H fun ta haa H=>cl Q (cL 281) Q (dp.c haa)<|gq 1 ?_
  cases H.out; exact ek 0
 refine wr 5 0<|go 2<|Dv.lens Q T Q U9<|go 2<|cf H ?_ ?_ <;> intro H
 ·
  exact (aV.no H).elim
 refine sp ?_
 cases H.out; exact ek 0
theorem jD.c (h:jD.f a0 a1=some r):Pt prog 278 [vS a0,vS a1] (kN [vS r.1,vS r.2.1,vB r.2.2]):=by
 refine pf func278 h fun R0 F H=>?_
 refine so<|WP.seq<|wr 4 0<|go 2<|el H fun ta haa H=>cl Q (cL 269) Q (ee.c haa)<|go 1<|so<|cf H ?_ ?_ <;> intro H
 ·
  refine WP.skip<|sp ?_
  cases H.out; exact ek 0
 refine wd mX 12 0<|go 2<|gr H fun ga H=>Dv.Hg Q T Q U9 dC (eV Q ga.1) ga.2.1 ga.2.2<|go 3<|Dv.lens Q T Q U9<|go 1<|gr H fun gb H=>Dv.Hg Q T Q U9 (eV Q gb.1) dC gb.2.1 gb.2.2<|gq 3 ?_
 cases H.out; exact ek 0
theorem jV.c (h:jV.f a0 a1=some r):Pt prog 256 [vS a0,vS a1] (kN [vS r.1,vS r.2.1,vB r.2.2]):=by
 refine pf func256 h fun R0 F H=>?_
 refine so<|wr 9 0<|go 2<|el H fun ta haa H=>cl Q (cL 278) Q (jD.c haa)<|ei Q T Q Q<|ei Q T Q Q<|ei Q T Q Q<|gq 3 ?_
 cases H.out; exact ek 0
theorem kS.c (h:kS.f k a0=some r):Pt prog 257 [vS a0] (vB r):=by
 refine pf func257 h fun R0 F H=>?_
 refine so<|wr 16 0<|go 1<|el H fun ta haa H=>cl Q (cL 255) Q (dY.c haa)<|gp 1 ?_
 cases cc:ta
 ·
  have H:=H.cf cc
  refine gq 13 ?_
  cases H.out; exact ek 0
 have H:=H.ct cc
 refine go 1<|gr H fun ga H=>Dv.qq Q (gg Q) Q Q U9 ga.1 ga.2<|el H fun tc hac H=>Dv.call Q (gg Q) (cL 279) Q (iE.c hac)<|gp 2 ?_
 cases cg:tc
 ·
  have H:=H.cf cg
  refine gq 8 ?_
  cases H.out; exact ek 0
 have H:=H.ct cg
 refine go 2<|Dv.lens Q (gg Q) Q U9<|go 1<|gr H fun gb H=>Dv.qq Q (gg Q) Q Q U9 gb.1 gb.2<|el H fun te had H=>Dv.call Q (gg Q) (cL 279) Q (iE.c had)<|gq 2 ?_
 cases H.out; exact ek 0
theorem j7.c (h:j7.f k a0 a1=some r):Pt prog 225 [vS a0,vS a1] (kN [vS r.1,vS r.2.1,vB r.2.2]):=by
 refine pf func225 h fun R0 F H=>?_
 refine so<|wr 8 0<|go 2<|el H fun ta haa H=>cl Q (cL 254) Q (eg.c haa)<|go 1<|ei Q T Q Q<|ei Q T Q Q<|go 2<|wr 9 0<|go 1<|el H fun tc hac H=>cl Q (cL 256) Q (jV.c hac)<|go 1<|ei Q T Q Q<|ei Q T Q Q<|ei Q T Q Q<|go 3<|wr 17 0<|gp 4 ?_
 cases cc:ta.2
 ·
  have H:=H.cf cc
  refine gq 13 ?_
  cases H.out; exact ek 0
 have H:=H.ct cc
 refine gp 3 ?_
 cases cg:tc.2.2
 ·
  have H:=H.cf cg
  refine gq 10 ?_
  cases H.out; exact ek 0
 have H:=H.ct cg
 refine go 1<|el H fun te had H=>Dv.call Q (gg Q) (cL 255) Q (dY.c had)<|gp 2 ?_
 cases ci:te
 ·
  have H:=H.cf ci
  refine gq 6 ?_
  cases H.out; exact ek 0
 have H:=H.ct ci
 refine go 1<|el H fun tg hae H=>Dv.call Q (gg Q) (cL 257) Q (kS.c hae)<|gq 4 ?_
 cases H.out; exact ek 0
theorem lX.c (h:lX.f k a0=some r):Pt prog 156 [vS a0] (vB r):=by
 refine pf func156 h fun R0 F H=>?_
 refine so<|wr 9 0<|go 1<|el H fun ta haa H=>cl Q (cL 225) Q (j7.c haa)<|go 1<|ei Q T Q Q<|ei Q T Q Q<|ei Q T Q Q<|go 3<|sp ?_
 cases H.out; exact ek 0
theorem ea.c (h:ea.f k a0=some r):Pt prog 211 [vS a0] (vB r):=by
 refine pf func211 h fun R0 F H=>?_
 refine so<|wr 7 0<|go 1<|el H fun ta haa H=>cl Q (cL 254) Q (eg.c haa)<|go 1<|ei Q T Q Q<|ei Q T Q Q<|go 2<|wr 6 0<|gp 2 ?_
 cases zJ:ta.2
 ·
  have H:=H.cf zJ
  refine gq 4 ?_
  cases H.out; exact ek 0
 have H:=H.ct zJ
 refine go 1<|el H fun tc hac H=>Dv.call Q (gg Q) (cL 255) Q (dY.c hac)<|gq 2 ?_
 cases H.out; exact ek 0
theorem kb.c (h:kb.f k a0=some r):Pt prog 212 [vS a0] (vB r):=by
 refine pf func212 h fun R0 F H=>?_
 refine so<|wr 9 0<|go 1<|el H fun ta haa H=>cl Q (cL 225) Q (j7.c haa)<|go 1<|ei Q T Q Q<|ei Q T Q Q<|ei Q T Q Q<|go 3<|sp ?_
 cases H.out; exact ek 0
theorem dB.c (h:dB.f k a0=some r):Pt prog 143 [agg (Event.enc a0)] (vB r):=by
 refine pf func143 h fun R0 F H=>?_
 refine wr 2 1<|Dv.box Q T Q cA nofun fun ba=>go 1<|WP.scope<|WP.seq<|wr 32 0<|gl 2 [0]<|el H fun ta haa H=>cl Q (cL 211) Q (ea.c haa)<|gp 2 ?_
 cases cc:!ta
 rotate_left
 ·
  have H:=H.ct cc
  refine go 27<|WP.cond Q (fun _=>?_) nofun
  refine sp ?_
  cases H.out; exact ek 1
 have H:=H.cf cc
 refine gl 2 [0]<|el H fun tc hac H=>Dv.call Q (gg Q) (cL 212) Q (kb.c hac)<|gp 3 ?_
 cases cg:!tc
 rotate_left
 ·
  have H:=H.ct cg
  refine go 21<|WP.cond Q (fun _=>?_) nofun
  refine sp ?_
  cases H.out; exact ek 1
 have H:=H.cf cg
 refine gl 2 [0]<|el H fun te had H=>Dv.call Q (gg Q) (cL 156) Q (lX.c had)<|gp 3 ?_
 cases ci:!te
 rotate_left
 ·
  have H:=H.ct ci
  refine go 15<|WP.cond Q (fun _=>?_) nofun
  refine sp ?_
  cases H.out; exact ek 1
 have H:=H.cf ci
 refine gl 2 [0]<|Dv.fg Q (gg Q) Q dW<|gp 3 ?_
 cases IF:decide (4<(a0.ag.length:Int))
 rotate_left
 ·
  have H:=H.ct IF
  refine go 9<|WP.cond Q (fun _=>?_) nofun
  refine sp ?_
  cases H.out; exact ek 1
 have H:=H.cf IF
 refine kK 5 [0] ?_
 cases cj:decide (a0.bR<0)
 rotate_left
 ·
  have H:=H.ct cj
  refine go 4<|WP.cond Q (fun _=>?_) nofun
  refine sp ?_
  cases H.out; exact ek 1
 have H:=H.cf cj
 refine gl 4 [0]<|ce H ?_ ?_ <;> intro H
 ·
  refine sp ?_
  cases H.out; exact ek 1
 refine WP.skip<|WP.seq<|wr 21 0<|kK 4 [0] ?_
 cases ck:!decide (a0.ae=eE)
 ·
  have H:=H.cf ck
  refine go 17<|WP.cond Q nofun (fun _=>?_)
  refine WP.skip<|so<|WP.seq<|WP.label<|sq H id [] (fun pa=>[(3,vB pa.1)]) (fun _=>[]) (fun pa H=>?_) (fun H=>?_)
  ·
   refine sp ?_
   cases H.out; exact ek 1
  refine wr 4 0<|gl 2 [0]<|Dv.fg Q T Q dW<|go 1<|WP.block<|ws 1 [0] 0 ?_
  refine lq (fun j_ (pc:Int)=>dB.l1 k a0 j_ pc) 0 H [1,3,60,61] (fun pc=>[(62,vI pc)]) (fun _=>[]) ?_
  rintro j_ xc H
  rcases j_ with _ | ja
  ·
   exact (aV.no H).elim
  try dsimp only at H
  rw [dB.l1] at H
  refine so<|WP.seq<|cf H ?_ ?_ <;> intro H
  ·
   refine WP.exit ?_
   have H:=H.out
   exact jn (true,xc,decide (xc<(a0.ag.length:Int))) H
  refine WP.skip<|WP.seq<|WP.block<|wr 5 0<|go 1<|gr H fun ga H=>Dv.iY Q T Q Q dW U9 c9 ga.1 ga.2<|mj Q T Q qt Q<|go 2<|wr 23 0<|go 1<|el H fun tg hae H=>cl Q (cL 211) Q (ea.c hae)<|gp 2 ?_
  cases cn:!tg
  rotate_left
  ·
   have H:=H.ct cn
   refine go 19<|WP.cond Q (fun _=>?_) nofun
   refine so<|WP.exit ?_
   have H:=H.out
   exact jn (false,xc,decide (xc<(a0.ag.length:Int))) H
  have H:=H.cf cn
  refine kK 6 [0] ?_
  cases co:decide ((aH.at a0.ag xc)=a0.cJ)
  rotate_left
  ·
   have H:=H.ct co
   refine go 13<|WP.cond Q (fun _=>?_) nofun
   refine so<|WP.exit ?_
   have H:=H.out
   exact jn (false,xc,decide (xc<(a0.ag.length:Int))) H
  have H:=H.cf co
  refine gp 3 ?_
  cases cp:decide (0<xc)
  ·
   have H:=H.cf cp
   refine go 10<|WP.cond Q nofun (fun _=>?_)
   exact WP.skip<|rg 2 0<|go 2<|bk ja (aw (xc+1)) H
  have H:=H.ct cp
  refine gl 5 [0]<|gr H fun gb H=>Dv.iY Q (gg Q) Q Q dW U9 c9 gb.1 gb.2<|mj Q (gg Q) Q qt Q<|go 3<|cf H ?_ ?_ <;> intro H
  ·
   exact WP.skip<|rg 2 0<|go 2<|bk ja (aw (xc+1)) H
  refine so<|WP.exit ?_
  have H:=H.out
  exact jn (false,xc,decide (xc<(a0.ag.length:Int))) H
 have H:=H.ct ck
 refine gl 2 [0]<|el H fun tj haf H=>Dv.call Q (gg Q) (cL 211) Q (ea.c haf)<|gp 2 ?_
 cases cq:!tj
 rotate_left
 ·
  have H:=H.ct cq
  refine go 12<|WP.cond Q (fun _=>?_) nofun
  refine sp ?_
  cases H.out; exact ek 1
 have H:=H.cf cq
 refine kK 7 [0,0] ?_
 cases FL:decide (a0.ae=a0.cJ)
 rotate_left
 ·
  have H:=H.ct FL
  refine go 5<|WP.cond Q (fun _=>?_) nofun
  refine sp ?_
  cases H.out; exact ek 1
 have H:=H.cf FL
 refine gl 5 [0]<|ce H ?_ ?_ <;> intro H
 ·
  refine sp ?_
  cases H.out; exact ek 1
 refine WP.skip<|so<|WP.seq<|WP.label<|sq H id [] (fun pe=>[(3,vB pe.1)]) (fun _=>[]) (fun pe H=>?_) (fun H=>?_)
 ·
  refine sp ?_
  cases H.out; exact ek 1
 refine wr 4 0<|gl 2 [0]<|Dv.fg Q T Q dW<|go 1<|WP.block<|ws 1 [0] 0 ?_
 refine lq (fun j_ (pg:Int)=>dB.l0 k a0 j_ pg) 0 H [1,3,60,61] (fun pg=>[(62,vI pg)]) (fun _=>[]) ?_
 rintro j_ xd H
 rcases j_ with _ | jc
 ·
  exact (aV.no H).elim
 try dsimp only at H
 rw [dB.l0] at H
 refine so<|WP.seq<|cf H ?_ ?_ <;> intro H
 ·
  refine WP.exit ?_
  have H:=H.out
  exact jn (true,xd,decide (xd<(a0.ag.length:Int))) H
 refine WP.skip<|WP.seq<|WP.block<|wr 5 0<|go 1<|gr H fun gc H=>Dv.iY Q T Q Q dW U9 c9 gc.1 gc.2<|mj Q T Q qt Q<|go 2<|wr 23 0<|go 1<|el H fun tm hag H=>cl Q (cL 211) Q (ea.c hag)<|gp 2 ?_
 cases cr:!tm
 rotate_left
 ·
  have H:=H.ct cr
  refine go 19<|WP.cond Q (fun _=>?_) nofun
  refine so<|WP.exit ?_
  have H:=H.out
  exact jn (false,xd,decide (xd<(a0.ag.length:Int))) H
 have H:=H.cf cr
 refine kK 6 [0] ?_
 cases cu:decide ((aH.at a0.ag xd)=a0.cJ)
 rotate_left
 ·
  have H:=H.ct cu
  refine go 13<|WP.cond Q (fun _=>?_) nofun
  refine so<|WP.exit ?_
  have H:=H.out
  exact jn (false,xd,decide (xd<(a0.ag.length:Int))) H
 have H:=H.cf cu
 refine gp 3 ?_
 cases cw:decide (0<xd)
 ·
  have H:=H.cf cw
  refine go 10<|WP.cond Q nofun (fun _=>?_)
  exact WP.skip<|rg 2 0<|go 2<|bk jc (aw (xd+1)) H
 have H:=H.ct cw
 refine gl 5 [0]<|gr H fun gi H=>Dv.iY Q (gg Q) Q Q dW U9 c9 gi.1 gi.2<|mj Q (gg Q) Q qt Q<|go 3<|cf H ?_ ?_ <;> intro H
 ·
  exact WP.skip<|rg 2 0<|go 2<|bk jc (aw (xd+1)) H
 refine so<|WP.exit ?_
 have H:=H.out
 exact jn (false,xd,decide (xd<(a0.ag.length:Int))) H
theorem ec.c {v0_0:OV} {b0_:Nat} (h:ec.f a0 a1=some r):Tr prog 144 [eP b0_,vS a1] [aI b0_ 265 [vS a0.cR,eq v0_0.1],km Value.string aW.O v0_0.1 a0.aq] (γ:=Unit) (fun _=>True) (fun g=>vB r) (fun g=>[aI b0_ 265 [vS a0.cR,eq v0_0.1],km Value.string aW.O v0_0.1 a0.aq]):=by
 refine tf func144 h fun R0 F H=>?_
 refine so<|wr 8 0<|gl 5 [0]<|vg (mh 1 Q) fun za haa=>?_
 refine Dv.F6 iS Q T Q (ab 0 Q) Q wF (dN U9) BN (fun _=>Q)<|Dv.pm1 (Bi haa Q) Q T Q Q U266<|go 1<|wg (iu haa Q (pm 3 [0,1,2])) fun _ _=>?_
 cases H.out; exact et () 2 [1,0] 0
theorem eT.c {cb0_ cd0_:Nat} {cq0_ cv0_0:OV} {ch0_:cq0_.1 = .pointer (some ⟨cd0_,0,none⟩)} {c0:bf} (h:eT.f a0 c0=some r):Tr prog 145 [vS a0,eP cb0_] [aI cb0_ 193 [eq cq0_.1],aI cd0_ 265 [vS c0.cR,eq cv0_0.1],km Value.string aW.O cv0_0.1 c0.aq] (γ:=Unit) (fun _=>True) (fun g=>vB r) (fun g=>[aI cb0_ 193 [eq cq0_.1],aI cd0_ 265 [vS c0.cR,eq cv0_0.1],km Value.string aW.O cv0_0.1 c0.aq]):=by
 refine tf func145 h fun R0 F H=>?_
 refine so<|wr 5 0<|gl 2 [0]<|el H fun ta haa H=>px 3 [1,2,0] (cL 144) (Tr.jK (ec.c haa (b0_:=cd0_) (v0_0:=cv0_0)) (.cons (iD ch0_) (.cons cM .nil))) ?_
 refine gq 2 ?_
 cases H.out; exact et () 3 [0,1,2] 0
theorem dI.c (h:dI.f a0=some r):Tr prog 213 [sl aH a0] [] (γ:=OV) (fun _=>True) (fun g=>eq g.1) (fun g=>[own aH g.1 r]):=by
 unfold dI.f at h
 obtain ⟨h0,h5⟩:=(aV.of h).an
 obtain rfl:=aV.out h5
 clear h h5
 refine (Tr.body func213 (c:=_) Q ntmps213 (Nat.le_of_ble_eq_true Q) fun R0 F=>?_)
 refine WP.seq<|WP.qL [(0,false)] kr<|go 1<|WP.seq<|WP.seq<|WP.qL [(0,false),(1,true)] kr<|go 1<|Dv.snil Q T Q Q dW nofun (fun b hb=>?_)
 refine .fin<|WP.cond Q (fun c0=>?_) (fun c0=>?_)
 ·
  obtain rfl:=hb c0
  refine WP.seq<|WP.qL [(0,false)] kr<|go 1<|wg (eD aH none) fun _ _=>?_
  exact et lA 1 [0] 0
 refine WP.skip<|WP.seq<|WP.qL [(0,true),(1,false),(2,true),(3,false)] kr<|Dv.lit0 aH Q T dW U9 c9 z9 nofun (fun v1=>?_)
 refine go 1<|Dv.Es (Kd:=aH) (xs:=[]) (v:=v1.1) (jj:=0) (ys:=a0) (fun v2:OV=>[own aH v2.1 a0]++F) Q T Q Q Q bS dW (.inr ⟨_,dW⟩) zF Q dc (by simpa using h0) Q nofun (fun v2=>?_)
 exact go 1<|rt i2 Q v2 1 [0] 0 (.cons (aE Q) .nil)
theorem iA.c (h:iA.f a0=some r):Pt prog 146 [agg (Event.enc a0)] (agg (Event.enc r)):=by
 refine pf func146 h fun R0 F H=>?_
 refine wr 2 3<|Dv.box Q T Q cA nofun fun ba=>al Q T zw nofun fun bc=>.fin<|wr 5 20<|gl 2 [1]<|el H fun ta haa H=>cx 2 [0,1] (cL 213) (dI.c haa) nofun fun ga _=>?_
 refine go 1<|sx 2 Q T Q Q (cells_one bK) G4 Q Q Q nofun ?_
 refine .fin<|wr 2 2<|gl 1 [2]<|sy 1 ?_
 refine .fin<|fz 0 [2] [1,1] ?_
 cases H.out; exact r2 i2 Q (.cons (au Q mJ Q oU (ab 0 Q) Q) .nil)
theorem dag_Dag_Add.c {p0_:OV} (h:dag_Dag_Add.f k a0 a1=some r):Tr prog 89 [eq p0_.1,agg (Event.enc a1)] [bf.O p0_ a0] (γ:=Unit) (fun _=>True) (fun g=>vI r.1) (fun g=>[bf.O p0_ r.2]):=by
 refine tf func89 h fun R0 F H=>?_
 refine wr 3 3<|Dv.box Q T Q (cells_one bK) nofun fun ba=>Dv.box Q T Q cA nofun fun bc=>go 1<|WP.seq<|WP.block<|WP.seq<|wg (bf.iK 2 Q) fun ga haa=>?_
 refine dg mX 13 0<|gl 1 [2]<|el H fun ta hac H=>cl Q (cL 143) Q (dB.c hac)<|gp 2 ?_
 cases cc:!ta
 rotate_left
 ·
  have H:=H.ct cc
  refine go 9<|WP.cond Q (fun _=>?_) nofun
  refine so<|wg (bf.shut (p:=p0_) (m:=a0) (ga.1,ga.2) haa (pm 4 [0,1,2,3])) fun _ _=>?_
  cases H.out; exact et () 3 [1,2,0] 2
 have H:=H.cf cc
 refine gl 3 [2,3]<|Dv.bW haa Q (gg Q) Q<|fp haa Q (gg Q) Q GM<|gl 4 [0]<|ce H ?_ ?_ <;> intro H
 ·
  refine so<|wg (bf.shut (p:=p0_) (m:=a0) (ga.1,ga.2) haa (pm 4 [0,1,2,3])) fun _ _=>?_
  cases H.out; exact et () 3 [1,2,0] 2
 refine wr 5 0<|gl 3 [3,2]<|el H fun tc had H=>px 4 [0,1,2,3] (cL 144) (Tr.jK (ec.c had (b0_:=ga.1) (v0_0:=ga.2)) (.cons (iD haa) (.cons cM .nil))) ?_
 refine go 1<|ce H ?_ ?_ <;> intro H
 ·
  refine so<|wg (bf.shut (p:=p0_) (m:=a0) (ga.1,ga.2) haa (pm 4 [0,1,2,3])) fun _ _=>?_
  cases H.out; exact et () 3 [1,2,0] 2
 refine wr 5 0<|gl 2 [2]<|Dv.mkx (Q:=jB (fun a0_=>eT.f a0_ a0)) (L:=[aI ba 193 [eq p0_.1],aI ga.1 265 [vS a0.cR,eq ga.2.1],km Value.string aW.O ga.2.1 a0.aq]) (cL 145) (by rintro _ _ ⟨a0_,r_,h_,rfl,rfl⟩; exact eT.c h_ (cb0_:=ba) (cq0_:=p0_) (cd0_:=ga.1) (ch0_:=haa) (cv0_0:=ga.2)) Q T Q Q<|el H fun te hae H=>px 4 [3,0,1,2] (cL 122) (Tr.Js (A:=[]) (L:=[aI ba 193 [eq p0_.1],aI ga.1 265 [vS a0.cR,eq ga.2.1],km Value.string aW.O ga.2.1 a0.aq]) (cD.c hae (X1_:=(pk [aI ba 193 [eq p0_.1],aI ga.1 265 [vS a0.cR,eq ga.2.1],km Value.string aW.O ga.2.1 a0.aq])))) ?_
 refine go 1<|ce H ?_ ?_ <;> intro H
 ·
  refine so<|wg (bf.shut (p:=p0_) (m:=a0) (ga.1,ga.2) haa (pm 4 [0,1,2,3])) fun _ _=>?_
  cases H.out; exact et () 3 [1,2,0] 2
 refine WP.skip<|WP.xS H id (fun pa=>[(2,eP ba),(3,eP bc)]) (fun pa=>[aI bc 110 (Event.enc a1),aI ba 193 [eq p0_.1],bf.O p0_ a0]++F) (fun pa H=>?_) (fun H=>?_)
 rotate_left
 ·
  refine r9 [2]<|cf H ?_ ?_ <;> intro H
  ·
   refine WP.skip ?_
   have H:=H.out
   refine ng (bf.shut (p:=p0_) (m:=a0) (ga.1,ga.2) haa (pm 4 [0,1,2,3])) fun _ _=>?_
   refine ns 3 [1,2,0] 0 ?_
   exact jn () H
  refine WP.seq<|wg (mh 1 Q) fun za haf=>?_
  refine dg mX 8 0<|gl 1 [4]<|Dv.bW haa Q T Q<|fp haa Q T Q tY<|gl 3 [2,3]<|Dv.F6 iS Q T Q (ab 0 Q) Q wF (dN U9) BN (fun _=>Q)<|go 1<|WP.seq<|wr 2 0<|go 1<|Dv.pm0 (Bi haf Q) Q T Q Q U266<|.fin<|ce H ?_ ?_ <;> intro H
  ·
   refine so<|wg (iu haf Q (pm 5 [0,1,2,3,4])) fun _ _=>?_
   refine wg (bf.shut (p:=p0_) (m:=a0) (ga.1,ga.2) haa (pm 4 [1,0,2,3])) fun _ _=>?_
   have H:=H.fH
   cases H.out; exact et () 3 [1,2,0] 2
  refine WP.skip<|wr 14 0<|go 1<|gr H fun gb H=>vg (qv haf Q gb (pm 5 [1,0,2,3,4])) fun _ _=>?_
  refine Dv.pZ aW.nn Q T Q (ab 0 Q)<|vg (aW.iK 0 Q) fun gc hag=>?_
  refine fp hag Q T Q tU<|kK 4 [0] ?_
  cases cg:!decide (((((mget a0.aq a1.ae).getD default).fe).ae)=eE)
  rotate_left
  ·
   have H:=H.ct cg
   refine go 7<|WP.cond Q (fun _=>?_) nofun
   refine so<|wg (aW.shut (p:=((mget (cZ a0.aq za) a1.ae).getD iS)) (m:=(mget a0.aq a1.ae).getD default) gc hag (pm 6 [0,1,2,3,4,5])) fun _ _=>?_
   refine wg (od haf Q gb (pm 6 [0,1,2,3,4,5])) fun _ _=>?_
   refine wg (iu haf Q (pm 5 [1,0,2,3,4])) fun _ _=>?_
   refine wg (bf.shut (p:=p0_) (m:=a0) (ga.1,ga.2) haa (pm 4 [1,0,2,3])) fun _ _=>?_
   have H:=H.fH
   cases H.out; exact et () 3 [1,2,0] 2
  have H:=H.cf cg
  refine go 1<|Dv.bW hag Q (gg Q) Q<|fp hag Q (gg Q) Q tU<|gl 4 [0]<|cf H ?_ ?_ <;> intro H
  ·
   refine WP.skip ?_
   have H:=H.out
   refine ng (aW.shut (p:=((mget (cZ a0.aq za) a1.ae).getD iS)) (m:=(mget a0.aq a1.ae).getD default) gc hag (pm 6 [0,1,2,3,4,5])) fun _ _=>?_
   refine ng (od haf Q gb (pm 6 [0,1,2,3,4,5])) fun _ _=>?_
   refine ng (iu haf Q (pm 5 [1,0,2,3,4])) fun _ _=>?_
   refine ng (bf.shut (p:=p0_) (m:=a0) (ga.1,ga.2) haa (pm 4 [1,0,2,3])) fun _ _=>?_
   refine ns 3 [1,2,0] 0 ?_
   exact jn () H
  refine so<|wg (aW.shut (p:=((mget (cZ a0.aq za) a1.ae).getD iS)) (m:=(mget a0.aq a1.ae).getD default) gc hag (pm 6 [0,1,2,3,4,5])) fun _ _=>?_
  refine wg (od haf Q gb (pm 6 [0,1,2,3,4,5])) fun _ _=>?_
  refine wg (iu haf Q (pm 5 [1,0,2,3,4])) fun _ _=>?_
  refine wg (bf.shut (p:=p0_) (m:=a0) (ga.1,ga.2) haa (pm 4 [1,0,2,3])) fun _ _=>?_
  have H:=H.fH
  cases H.out; exact et () 3 [1,2,0] 2
 refine wr 5 8<|gl 1 [0]<|el H fun tg hah H=>cl Q (cL 146) Q (iA.c hah)<|Dv.lp (qs:=[vS tg.cJ,vS tg.aa,sl aH tg.ag,vS tg.ae,vS tg.ai,vI tg.bR,vI 0,vB false]) (css:=[Event.enc tg]) Q T HY pl268 z268 Q ⟨(aZ (Event.K.one _)),T⟩ Q Q<|Dv.box Q T Q cA nofun fun bd=>go 1<|WP.lf H id (fun pc=>[(2,eP ba),(3,eP bc),(6,eP bd)]) (fun pc=>[aI bd 268 [vS tg.cJ,vS tg.aa,sl aH tg.ag,vS tg.ae,vS tg.ai,vI tg.bR,vI pc.2.2.1,vB false],aI bc 110 (Event.enc a1),aI ba 193 [eq p0_.1],bf.O p0_ pc.2.2.2]++F) (fun pc H=>?_) (fun H=>?_)
 ·
  refine WP.seq<|wg (bf.iK 3 Q) fun gi hai=>?_
  refine wg (aW.shut (p:=(⟨.pointer (some ⟨bd,0,none⟩),Q⟩:OV)) (m:=(⟨tg,pc.2.2.1,false⟩:aW)) bd Q (pm 5 [2,0,1,3,4])) fun _ _=>?_
  refine wg (mh 2 Q) fun zb haj=>?_
  refine dg mX 8 128<|gl 1 [5]<|Dv.bW hai Q T Q<|fp hai Q T Q tY<|gl 4 [3,4]<|Dv.mup (vp:=fun p:OV=>eq p.1) (jj:=0) (⟨.pointer (some ⟨bd,0,none⟩),Q⟩:OV) Q T Q Q Q Q wF (dN U9) (fun _=>fF kr)<|.fin<|so<|wg (Ct aW.nn haj Q (pm 6 [0,1,2,3,4,5])) fun _ _=>?_
  refine wg (bf.shut (p:=p0_) (m:=(⟨pc.2.2.2.cR,mput pc.2.2.2.aq a1.cJ (⟨tg,pc.2.2.1,false⟩:aW)⟩:bf)) (gi.1,gi.2) hai (pm 4 [1,0,2,3])) fun _ _=>?_
  cases H.out; exact et () 3 [1,2,0] 2
 refine wr 4 0<|gl 2 [1]<|Dv.fg Q T Q dW<|go 1<|WP.block<|ws 4 [0,1,2,3] 0 ?_
 refine lq (fun j_ (pe:Int×Int×bf)=>dag_Dag_Add.l0 k a1 j_ pe.1 pe.2.1 pe.2.2) (0,0,a0) H [2,3,6,63,64] (fun pe=>[(65,vI pe.1)]) (fun pe=>[(0,aI bd 268 [vS tg.cJ,vS tg.aa,sl aH tg.ag,vS tg.ae,vS tg.ai,vI tg.bR,vI pe.2.1,vB false]),(3,bf.O p0_ pe.2.2)]) ?_
 rintro j_ ⟨xc,xd,xe⟩ H
 rcases j_ with _ | ja
 ·
  exact (aV.no H).elim
 try dsimp only at H
 rw [dag_Dag_Add.l0] at H
 refine so<|WP.seq<|cf H ?_ ?_ <;> intro H
 ·
  refine WP.exit ?_
  have H:=H.out
  exact jn (xc,decide (xc<(a1.ag.length:Int)),xd,xe) H
 refine WP.skip<|WP.seq<|WP.block<|wr 3 0<|gr H fun gj H=>Dv.iY Q T Q Q dW U9 c9 gj.1 gj.2<|mj Q T Q qt Q<|go 1<|WP.seq<|wg (bf.iK 3 Q) fun gk hak=>?_
 refine wg (mh 1 Q) fun zc ham=>?_
 refine gr H fun gm H=>wg (qv ham Q gm (pm 6 [1,0,2,3,4,5])) fun _ _=>?_
 refine wg (aW.iK 0 Q) fun gn han=>?_
 refine dg mX 19 262144<|gl 6 [4,6]<|Dv.bW hak Q T Q<|fp hak Q T Q tY<|gl 2 [3]<|Dv.F6 iS Q T Q (ab 2 Q) Q wF (dN U9) BN (fun _=>Q)<|Dv.bW han Q T Q<|fp han Q T Q yb<|gl 2 [0]<|Dv.IA Q T Q Q<|go 2<|sv 4 ?_
 refine .fin<|rg 9 256<|gl 1 [6]<|Dv.bW hak Q T Q<|fp hak Q T Q tY<|gl 2 [3]<|Dv.F6 iS Q T Q (ab 2 Q) Q wF (dN U9) BN (fun _=>Q)<|Dv.bW han Q T Q<|fp han Q T Q Ir<|sy 0 ?_
 refine .fin<|rg 2 0<|go 2<|ng (aW.shut (p:=((mget (cZ xe.aq zc) (aH.at a1.ag xc)).getD iS)) (m:=(⟨((mget xe.aq (aH.at a1.ag xc)).getD default).fe,((mget xe.aq (aH.at a1.ag xc)).getD default).cN,true⟩:aW)) gn han (pm 7 [0,1,2,3,4,5,6])) fun _ _=>?_
 refine ng (yC ham Q gm (pm 7 [0,1,2,3,4,5,6])) fun _ hao=>?_
 refine ng (iu hao (rY Q gm) (pm 6 [1,0,2,3,4,5])) fun _ _=>?_
 refine ng (bf.shut (p:=p0_) (m:=(⟨xe.cR,mput xe.aq (aH.at a1.ag xc) (⟨((mget xe.aq (aH.at a1.ag xc)).getD default).fe,((mget xe.aq (aH.at a1.ag xc)).getD default).cN,true⟩:aW)⟩:bf)) (gk.1,gk.2) hak (pm 5 [1,0,2,3,4])) fun _ _=>?_
 refine ns 4 [1,2,3,0] 0 ?_
 exact bk ja (aw (xc+1),max xd (aw ((((mget xe.aq (aH.at a1.ag xc)).getD default).cN)+1)),(⟨xe.cR,mput xe.aq (aH.at a1.ag xc) (⟨((mget xe.aq (aH.at a1.ag xc)).getD default).fe,((mget xe.aq (aH.at a1.ag xc)).getD default).cN,true⟩:aW)⟩:bf)) H
theorem iC.c {p0_:OV} (h:iC.f k a0 a1=some r):Tr prog 35 [eq p0_.1,agg (Event.enc a1)] [aL.O p0_ a0] (γ:=Unit) (fun _=>True) (fun g=>vI r.1) (fun g=>[aL.O p0_ r.2]):=by
 refine tf func35 h fun R0 F H=>?_
 refine wr 2 1<|Dv.box Q T Q cA nofun fun ba=>go 1<|wr 5 8<|gl 3 [0]<|vg (aL.iK 1 Q) fun ga haa=>?_
 refine el H fun ta hac H=>cx 3 [0,1,2] (cL 88) (Tr.jK (aO.c hac (b0_:=ga.1) (v0_0:=ga.2)) (.cons (iD haa) (.cons cM .nil))) nofun fun va _=>?_
 refine go 1<|WP.seq<|wr 4 4<|gl 2 [3]<|el H fun tc had H=>cx 4 [2,0,1,3] (cL 89) (dag_Dag_Add.c had (p0_:=va)) nofun fun _ _=>?_
 refine go 1<|so<|ce H ?_ ?_ <;> intro H
 ·
  refine so<|wg (zY (pm 4 [2,0,1,3])) fun _ _=>?_
  refine wg (aL.shut (p:=p0_) (m:=(⟨wM a0.br a1.aa tc.2⟩:aL)) (ga.1,ga.2) haa (pm 3 [1,0,2])) fun _ _=>?_
  cases H.out; exact et () 2 [1,0] 1
 refine WP.skip<|WP.seq<|wg (B9 2 Q) fun za hae=>?_
 refine dg mX 8 128<|go 1<|Dv.bW haa Q T Q<|fp haa Q T Q G1<|gl 4 [3,4]<|Dv.mup (vp:=fun p:OV=>eq p.1) (jj:=0) va Q T Q Q Q Q C7 (dN U9) (fun _=>fF kr)<|.fin<|so<|wg (II bf.nn hae (pm 5 [0,1,2,3,4])) fun _ _=>?_
 refine wg (aL.shut (p:=p0_) (m:=(⟨mput a0.br a1.aa tc.2⟩:aL)) (ga.1,ga.2) haa (pm 3 [1,0,2])) fun _ _=>?_
 cases H.out; exact et () 2 [1,0] 1
theorem iJ.c (h:iJ.f k a0 a1=some r):Pt prog 77 [agg (bF.enc a0),vS a1] (agg (aQ.enc r)):=by
 refine pf func77 h fun R0 F H=>?_
 refine wr 2 3<|Dv.box Q T Q cA nofun fun ba=>al Q T ot nofun fun bc=>.fin<|sr H id [1,4] (fun _=>[]) (fun _=>[]) (fun pa H=>?_) (fun H=>?_)
 ·
  refine wr 3 4<|go 1<|Dv.lp (qs:=[vS a1,eN]) (css:=[[vS a1]]) Q T lZ Fj A7 Q ⟨(cells_one (ah Q)),T⟩ Q Q<|sy 0 ?_
  refine .fin ?_
  cases H.out; exact r2 i2 Q (.cons (pM (au Q lZ Q nX (ab 0 Q) Q) (oJ (.cons cM (.cons dD .nil)))) .nil)
 refine so<|WP.block<|ws 2 [0,1] 0 ?_
 refine lq (fun j_ (pc:Int)=>iJ.l0 k a0 a1 j_ pc) 0 H [1,2,4] (fun pc=>[(5,vI pc)]) (fun _=>[]) ?_
 rintro j_ xc H
 rcases j_ with _ | ja
 ·
  exact (aV.no H).elim
 try dsimp only at H
 rw [iJ.l0] at H
 refine WP.seq<|wr 5 0<|gl 3 [1]<|Dv.fg Q T Q AL<|go 1<|cf H ?_ ?_ <;> intro H
 ·
  refine WP.exit ?_
  have H:=H.out
  exact jn (xc,decide (xc<(a0.fD.length:Int))) H
 refine WP.skip<|WP.seq<|WP.block<|wr 8 0<|gl 3 [1]<|gr H fun ga H=>Dv.iY Q T Q Q AL lZ nX ga.1 ga.2<|fr Q T Q yd Q<|mj Q T Q qt Q<|go 2<|cf H ?_ ?_ <;> intro H
 ·
  exact WP.skip<|rg 3 0<|go 3<|bk ja (aw (xc+1)) H
 refine wr 6 32<|gl 3 [1]<|gr H fun gb H=>Dv.iY Q T Q Q AL lZ nX gb.1 gb.2<|kM Q T Q I1 Q<|sy 0 ?_
 refine .fin ?_
 have H:=H.fH
 cases H.out; exact r2 i2 Q (.cons (au Q lZ Q nX (ab 0 Q) Q) .nil)
theorem eM.c (h:eM.f k a0=some r):Pt prog 214 [vS a0] (vI r):=by
 refine pf func214 h fun R0 F H=>?_
 refine so<|sr H id [] (fun _=>[]) (fun _=>[]) (fun pa H=>?_) (fun H=>?_)
 ·
  refine sp ?_
  cases H.out; exact ek 0
 refine so<|WP.block<|ws 0 [] 0 ?_
 refine lq (fun j_ (pc:Int)=>eM.l0 k a0 j_ pc) 0 H [0] (fun pc=>[(3,vI pc)]) (fun _=>[]) ?_
 rintro j_ xc H
 rcases j_ with _ | ja
 ·
  exact (aV.no H).elim
 try dsimp only at H
 rw [eM.l0] at H
 refine WP.seq<|wr 4 0<|go 2<|Dv.lens Q T Q U9<|go 1<|cf H ?_ ?_ <;> intro H
 ·
  refine WP.exit ?_
  have H:=H.out
  exact jn (xc,decide (xc<(a0.size:Int))) H
 refine WP.skip<|WP.seq<|WP.block<|wr 4 0<|go 2<|gr H fun ga H=>Dv.qq Q T Q Q U9 ga.1 ga.2<|go 1<|cf H ?_ ?_ <;> intro H
 ·
  exact WP.skip<|rg 3 0<|go 3<|bk ja (aw (xc+1)) H
 refine sp ?_
 have H:=H.fH
 cases H.out; exact ek 0
theorem mi.c (h:mi.f a0=some r):Pt prog 217 [eq (.int .u8 a0)] (vB r):=by
 refine pf func217 h fun R0 F H=>?_
 refine so<|wr 15 0<|gp 3 ?_
 cases cc:decide (97≤a0)
 ·
  have H:=H.cf cc
  refine gp 7 ?_
  cases cg:decide (48≤a0)
  ·
   have H:=H.cf cg
   refine gq 5 ?_
   cases H.out; exact ek 0
  have H:=H.ct cg
  refine gq 5 ?_
  cases H.out; exact ek 0
 have H:=H.ct cc
 refine gp 4 ?_
 cases ci:decide (a0≤122)
 rotate_left
 ·
  have H:=H.ct ci
  refine gq 8 ?_
  cases H.out; exact ek 0
 have H:=H.cf ci
 refine gp 3 ?_
 cases cj:decide (48≤a0)
 ·
  have H:=H.cf cj
  refine gq 5 ?_
  cases H.out; exact ek 0
 have H:=H.ct cj
 refine gq 5 ?_
 cases H.out; exact ek 0
theorem eU.c (h:eU.f k a0=some r):Pt prog 215 [vS a0] (vB r):=by
 refine pf func215 h fun R0 F H=>?_
 refine so<|sr H id [0] (fun _=>[]) (fun _=>[]) (fun pa H=>?_) (fun H=>?_)
 ·
  refine wr 9 0<|go 1<|Dv.lens Q T Q U9<|gp 2 ?_
  cases cc:decide (0<(a0.size:Int))
  ·
   have H:=H.cf cc
   refine gq 5 ?_
   cases H.out; exact ek 0
  have H:=H.ct cc
  refine go 1<|Dv.lens Q (gg Q) Q U9<|gq 3 ?_
  cases H.out; exact ek 0
 refine so<|WP.block<|ws 0 [] 0 ?_
 refine lq (fun j_ (pc:Int)=>eU.l0 k a0 j_ pc) 0 H [0] (fun pc=>[(3,vI pc)]) (fun _=>[]) ?_
 rintro j_ xc H
 rcases j_ with _ | ja
 ·
  exact (aV.no H).elim
 try dsimp only at H
 rw [eU.l0] at H
 refine WP.seq<|wr 4 0<|go 2<|Dv.lens Q T Q U9<|go 1<|cf H ?_ ?_ <;> intro H
 ·
  refine WP.exit ?_
  have H:=H.out
  exact jn (xc,decide (xc<(a0.size:Int))) H
 refine WP.skip<|WP.seq<|WP.block<|wr 5 0<|go 2<|gr H fun ga H=>Dv.qq Q T Q Q U9 ga.1 ga.2<|el H fun ta haa H=>cl Q (cL 217) Q (mi.c haa)<|go 1<|wr 20 0<|gp 3 ?_
 cases cg:!ta
 ·
  have H:=H.cf cg
  refine go 17<|WP.cond Q nofun (fun _=>?_)
  exact WP.skip<|rg 3 0<|go 3<|bk ja (aw (xc+1)) H
 have H:=H.ct cg
 refine go 2<|gr H fun gb H=>Dv.qq Q (gg Q) Q Q U9 gb.1 gb.2<|gp 3 ?_
 cases ci:((bt a0 xc) != 46)
 ·
  have H:=H.cf ci
  refine go 11<|WP.cond Q nofun (fun _=>?_)
  exact WP.skip<|rg 3 0<|go 3<|bk ja (aw (xc+1)) H
 have H:=H.ct ci
 refine go 2<|gr H fun gc H=>Dv.qq Q (gg Q) Q Q U9 gc.1 gc.2<|gp 3 ?_
 cases cj:((bt a0 xc) != 45)
 ·
  have H:=H.cf cj
  refine go 5<|WP.cond Q nofun (fun _=>?_)
  exact WP.skip<|rg 3 0<|go 3<|bk ja (aw (xc+1)) H
 have H:=H.ct cj
 refine go 2<|gr H fun gi H=>Dv.qq Q (gg Q) Q Q U9 gi.1 gi.2<|go 2<|cf H ?_ ?_ <;> intro H
 ·
  exact WP.skip<|rg 3 0<|go 3<|bk ja (aw (xc+1)) H
 refine sp ?_
 have H:=H.fH
 cases H.out; exact ek 0
theorem de.c (h:de.f k a0=some r):Pt prog 216 [vS a0] (vB r):=by
 refine pf func216 h fun R0 F H=>?_
 refine so<|sr H id [0] (fun _=>[]) (fun _=>[]) (fun pa H=>?_) (fun H=>?_)
 ·
  refine wr 9 0<|go 1<|Dv.lens Q T Q U9<|gp 2 ?_
  cases cc:decide (0<(a0.size:Int))
  ·
   have H:=H.cf cc
   refine gq 5 ?_
   cases H.out; exact ek 0
  have H:=H.ct cc
  refine go 1<|Dv.lens Q (gg Q) Q U9<|gq 3 ?_
  cases H.out; exact ek 0
 refine so<|WP.block<|ws 0 [] 0 ?_
 refine lq (fun j_ (pc:Int)=>de.l0 k a0 j_ pc) 0 H [0] (fun pc=>[(3,vI pc)]) (fun _=>[]) ?_
 rintro j_ xc H
 rcases j_ with _ | ja
 ·
  exact (aV.no H).elim
 try dsimp only at H
 rw [de.l0] at H
 refine WP.seq<|wr 4 0<|go 2<|Dv.lens Q T Q U9<|go 1<|cf H ?_ ?_ <;> intro H
 ·
  refine WP.exit ?_
  have H:=H.out
  exact jn (xc,decide (xc<(a0.size:Int))) H
 refine WP.skip<|WP.seq<|WP.block<|wr 5 0<|go 2<|gr H fun ga H=>Dv.qq Q T Q Q U9 ga.1 ga.2<|el H fun ta haa H=>cl Q (cL 217) Q (mi.c haa)<|go 1<|wr 22 0<|gp 3 ?_
 cases cg:decide (0<xc)
 ·
  have H:=H.cf cg
  refine go 19<|wr 6 0<|gp 3 ?_
  cases ci:!ta
  ·
   have H:=H.cf ci
   refine go 3<|WP.cond Q nofun (fun _=>?_)
   exact WP.skip<|rg 3 0<|go 3<|bk ja (aw (xc+1)) H
  have H:=H.ct ci
  refine go 3<|WP.cond Q (fun _=>?_) nofun
  refine sp ?_
  have H:=H.fH
  cases H.out; exact ek 0
 have H:=H.ct cg
 refine go 2<|Dv.lens Q (gg Q) Q U9<|gp 4 ?_
 cases cj:decide (xc<(aw ((a0.size:Int)-1)))
 ·
  have H:=H.cf cj
  refine go 12<|wr 6 0<|gp 3 ?_
  cases ck:!ta
  ·
   have H:=H.cf ck
   refine go 3<|WP.cond Q nofun (fun _=>?_)
   exact WP.skip<|rg 3 0<|go 3<|bk ja (aw (xc+1)) H
  have H:=H.ct ck
  refine go 3<|WP.cond Q (fun _=>?_) nofun
  refine sp ?_
  have H:=H.fH
  cases H.out; exact ek 0
 have H:=H.ct cj
 refine go 2<|gr H fun gb H=>Dv.qq Q (gg Q) Q Q U9 gb.1 gb.2<|gp 2 ?_
 cases cn:((bt a0 xc)==46)
 rotate_left
 ·
  have H:=H.ct cn
  refine go 7<|wr 6 0<|gp 3 ?_
  cases co:!ta
  ·
   have H:=H.cf co
   refine go 3<|WP.cond Q nofun (fun _=>?_)
   exact WP.skip<|rg 3 0<|go 3<|bk ja (aw (xc+1)) H
  have H:=H.ct co
  refine go 3<|WP.cond Q nofun (fun _=>?_)
  exact WP.skip<|rg 3 0<|go 3<|bk ja (aw (xc+1)) H
 have H:=H.cf cn
 refine go 2<|gr H fun gc H=>Dv.qq Q (gg Q) Q Q U9 gc.1 gc.2<|go 4<|wr 6 0<|gp 3 ?_
 cases cp:!ta
 ·
  have H:=H.cf cp
  refine go 3<|WP.cond Q nofun (fun _=>?_)
  exact WP.skip<|rg 3 0<|go 3<|bk ja (aw (xc+1)) H
 have H:=H.ct cp
 refine go 3<|cf H ?_ ?_ <;> intro H
 ·
  exact WP.skip<|rg 3 0<|go 3<|bk ja (aw (xc+1)) H
 refine sp ?_
 have H:=H.fH
 cases H.out; exact ek 0
theorem ic.c (h:ic.f k a0 a1=some r):Pt prog 149 [vS a0,eq (.int .u8 a1)] (vB r):=by
 refine pf func149 h fun R0 F H=>?_
 refine so<|wr 3 0<|go 1<|el H fun ta haa H=>cl Q (cL 214) Q (eM.c haa)<|go 1<|WP.seq<|wr 8 0<|gp 3 ?_
 cases cc:decide (ta<1)
 rotate_left
 ·
  have H:=H.ct cc
  refine go 5<|WP.cond Q (fun _=>?_) nofun
  refine sp ?_
  cases H.out; exact ek 0
 have H:=H.cf cc
 refine go 1<|gr H fun ga H=>Dv.qq Q (gg Q) Q Q U9 ga.1 ga.2<|go 3<|ce H ?_ ?_ <;> intro H
 ·
  refine sp ?_
  cases H.out; exact ek 0
 refine WP.skip<|wr 5 0<|go 2<|gr H fun gb H=>Dv.Hg Q T Q U9 (eV Q gb.1) (eV Q gb.2.1) gb.2.2.1 gb.2.2.2<|el H fun tc hac H=>cl Q (cL 215) Q (eU.c hac)<|go 1<|wr 6 0<|go 3<|gr H fun gc H=>Dv.Hg Q T Q U9 (eV Q gc.1) dC gc.2.1 gc.2.2<|el H fun te had H=>cl Q (cL 216) Q (de.c had)<|go 1<|wr 5 0<|gp 2 ?_
 cases cg:tc
 ·
  have H:=H.cf cg
  refine gq 3 ?_
  cases H.out; exact ek 0
 have H:=H.ct cg
 refine gq 3 ?_
 cases H.out; exact ek 0
theorem bV.c (h:bV.f k a0=some r):Pt prog 150 [vS a0] (vB r):=by
 refine pf func150 h fun R0 F H=>?_
 refine so<|WP.seq<|wr 13 0<|go 1<|Dv.lens Q T Q U9<|gp 2 ?_
 cases cc:decide ((a0.size:Int)<2)
 rotate_left
 ·
  have H:=H.ct cc
  refine go 9<|WP.cond Q (fun _=>?_) nofun
  refine sp ?_
  cases H.out; exact ek 0
 have H:=H.cf cc
 refine go 1<|Dv.lens Q (gg Q) Q U9<|gp 3 ?_
 cases cg:decide (17<(a0.size:Int))
 rotate_left
 ·
  have H:=H.ct cg
  refine go 4<|WP.cond Q (fun _=>?_) nofun
  refine sp ?_
  cases H.out; exact ek 0
 have H:=H.cf cg
 refine go 1<|gr H fun ga H=>Dv.qq Q (gg Q) Q Q U9 ga.1 ga.2<|go 2<|ce H ?_ ?_ <;> intro H
 ·
  refine sp ?_
  cases H.out; exact ek 0
 refine WP.skip<|sr H id [] (fun _=>[]) (fun _=>[]) (fun pa H=>?_) (fun H=>?_)
 ·
  refine sp ?_
  cases H.out; exact ek 0
 refine so<|WP.block<|ws 0 [] 0 ?_
 refine lq (fun j_ (pc:Int)=>bV.l0 k a0 j_ pc) 1 H [0] (fun pc=>[(3,vI pc)]) (fun _=>[]) ?_
 rintro j_ xc H
 rcases j_ with _ | ja
 ·
  exact (aV.no H).elim
 try dsimp only at H
 rw [bV.l0] at H
 refine WP.seq<|wr 4 0<|go 2<|Dv.lens Q T Q U9<|go 1<|cf H ?_ ?_ <;> intro H
 ·
  refine WP.exit ?_
  have H:=H.out
  exact jn (xc,decide (xc<(a0.size:Int))) H
 refine WP.skip<|WP.seq<|WP.block<|wr 5 0<|go 2<|gr H fun gb H=>Dv.qq Q T Q Q U9 gb.1 gb.2<|el H fun ta haa H=>cl Q (cL 217) Q (mi.c haa)<|go 1<|wr 11 0<|go 2<|gr H fun gc H=>Dv.qq Q T Q Q U9 gc.1 gc.2<|gp 2 ?_
 cases ci:decide (65≤(bt a0 xc))
 ·
  have H:=H.cf ci
  refine go 6<|wr 18 0<|gp 3 ?_
  cases cj:!ta
  ·
   have H:=H.cf cj
   refine go 15<|WP.cond Q nofun (fun _=>?_)
   exact WP.skip<|rg 3 0<|go 3<|bk ja (aw (xc+1)) H
  have H:=H.ct cj
  refine go 6<|gr H fun gi H=>Dv.qq Q (gg Q) Q Q U9 gi.1 gi.2<|gp 3 ?_
  cases ck:((bt a0 xc) != 45)
  ·
   have H:=H.cf ck
   refine go 5<|WP.cond Q nofun (fun _=>?_)
   exact WP.skip<|rg 3 0<|go 3<|bk ja (aw (xc+1)) H
  have H:=H.ct ck
  refine go 2<|gr H fun gj H=>Dv.qq Q (gg Q) Q Q U9 gj.1 gj.2<|go 2<|cf H ?_ ?_ <;> intro H
  ·
   exact WP.skip<|rg 3 0<|go 3<|bk ja (aw (xc+1)) H
  refine sp ?_
  have H:=H.fH
  cases H.out; exact ek 0
 have H:=H.ct ci
 refine go 2<|gr H fun gk H=>Dv.qq Q (gg Q) Q Q U9 gk.1 gk.2<|go 3<|wr 18 0<|gp 3 ?_
 cases cn:!ta
 ·
  have H:=H.cf cn
  refine go 15<|WP.cond Q nofun (fun _=>?_)
  exact WP.skip<|rg 3 0<|go 3<|bk ja (aw (xc+1)) H
 have H:=H.ct cn
 refine gp 4 ?_
 cases co:!(decide ((bt a0 xc)≤90))
 ·
  have H:=H.cf co
  refine go 11<|WP.cond Q nofun (fun _=>?_)
  exact WP.skip<|rg 3 0<|go 3<|bk ja (aw (xc+1)) H
 have H:=H.ct co
 refine go 2<|gr H fun gm H=>Dv.qq Q (gg Q) Q Q U9 gm.1 gm.2<|gp 3 ?_
 cases cp:((bt a0 xc) != 45)
 ·
  have H:=H.cf cp
  refine go 5<|WP.cond Q nofun (fun _=>?_)
  exact WP.skip<|rg 3 0<|go 3<|bk ja (aw (xc+1)) H
 have H:=H.ct cp
 refine go 2<|gr H fun gn H=>Dv.qq Q (gg Q) Q Q U9 gn.1 gn.2<|go 2<|cf H ?_ ?_ <;> intro H
 ·
  exact WP.skip<|rg 3 0<|go 3<|bk ja (aw (xc+1)) H
 refine sp ?_
 have H:=H.fH
 cases H.out; exact ek 0
theorem gJ.c (h:gJ.f k a0=some r):Pt prog 147 [agg (Event.enc a0)] (vB r):=by
 refine pf func147 h fun R0 F H=>?_
 refine wr 2 1<|Dv.box Q T Q cA nofun fun ba=>go 1<|wr 4 0<|gl 2 [0]<|el H fun ta haa H=>cl Q (cL 150) Q (bV.c haa)<|go 1<|wr 4 0<|gl 2 [0]<|el H fun tc hac H=>cl Q (cL 149) Q (ic.c hac)<|go 1<|wr 4 0<|gl 2 [0]<|el H fun te had H=>cl Q (cL 149) Q (ic.c had)<|go 1<|WP.seq<|wr 26 0<|gp 3 ?_
 cases cc:!ta
 rotate_left
 ·
  have H:=H.ct cc
  refine go 23<|WP.cond Q (fun _=>?_) nofun
  refine sp ?_
  cases H.out; exact ek 1
 have H:=H.cf cc
 refine gp 4 ?_
 cases cg:!tc
 rotate_left
 ·
  have H:=H.ct cg
  refine go 19<|WP.cond Q (fun _=>?_) nofun
  refine sp ?_
  cases H.out; exact ek 1
 have H:=H.cf cg
 refine gp 4 ?_
 cases ci:!te
 rotate_left
 ·
  have H:=H.ct ci
  refine go 15<|WP.cond Q (fun _=>?_) nofun
  refine sp ?_
  cases H.out; exact ek 1
 have H:=H.cf ci
 refine gl 2 [0]<|Dv.fg Q (gg Q) Q dW<|gp 3 ?_
 cases cj:decide (4<(a0.ag.length:Int))
 rotate_left
 ·
  have H:=H.ct cj
  refine go 9<|WP.cond Q (fun _=>?_) nofun
  refine sp ?_
  cases H.out; exact ek 1
 have H:=H.cf cj
 refine kK 5 [0] ?_
 cases ck:decide (a0.bR<0)
 rotate_left
 ·
  have H:=H.ct ck
  refine go 4<|WP.cond Q (fun _=>?_) nofun
  refine sp ?_
  cases H.out; exact ek 1
 have H:=H.cf ck
 refine gl 4 [0]<|ce H ?_ ?_ <;> intro H
 ·
  refine sp ?_
  cases H.out; exact ek 1
 refine WP.skip<|sr H id [1] (fun _=>[]) (fun _=>[]) (fun pa H=>?_) (fun H=>?_)
 rotate_left
 ·
  refine r9 [0]<|cf H ?_ ?_ <;> intro H
  ·
   refine WP.skip ?_
   have H:=H.out
   exact jn () H
  refine wr 4 0<|gl 2 [0]<|el H fun tg hae H=>cl Q (cL 150) Q (bV.c hae)<|go 1<|wr 14 0<|gp 3 ?_
  cases cn:!tg
  rotate_left
  ·
   have H:=H.ct cn
   refine go 11<|WP.cond Q (fun _=>?_) nofun
   refine sp ?_
   have H:=H.fH
   cases H.out; exact ek 1
  have H:=H.cf cn
  refine kK 7 [0,0] ?_
  cases co:decide (a0.ae=a0.cJ)
  rotate_left
  ·
   have H:=H.ct co
   refine go 4<|WP.cond Q (fun _=>?_) nofun
   refine sp ?_
   have H:=H.fH
   cases H.out; exact ek 1
  have H:=H.cf co
  refine gl 4 [0]<|cf H ?_ ?_ <;> intro H
  ·
   refine WP.skip ?_
   have H:=H.out
   exact jn () H
  refine sp ?_
  have H:=H.fH
  cases H.out; exact ek 1
 refine sr H id [] (fun _=>[]) (fun _=>[]) (fun pc H=>?_) (fun H=>?_)
 ·
  refine sp ?_
  cases H.out; exact ek 1
 refine so<|WP.block<|ws 1 [0] 0 ?_
 refine lq (fun j_ (pe:Int)=>gJ.l0 k a0 j_ pe) 0 H [1] (fun pe=>[(7,vI pe)]) (fun _=>[]) ?_
 rintro j_ xc H
 rcases j_ with _ | ja
 ·
  exact (aV.no H).elim
 try dsimp only at H
 rw [gJ.l0] at H
 refine WP.seq<|wr 5 0<|gl 3 [0]<|Dv.fg Q T Q dW<|go 1<|cf H ?_ ?_ <;> intro H
 ·
  refine WP.exit ?_
  have H:=H.out
  exact jn (xc,decide (xc<(a0.ag.length:Int))) H
 refine WP.skip<|WP.seq<|WP.block<|wr 7 0<|gl 3 [0]<|gr H fun ga H=>Dv.iY Q T Q Q dW U9 c9 ga.1 ga.2<|mj Q T Q qt Q<|el H fun tj haf H=>cl Q (cL 150) Q (bV.c haf)<|go 1<|WP.seq<|wd mX 12 0<|gp 3 ?_
 cases cp:!tj
 rotate_left
 ·
  have H:=H.ct cp
  refine go 9<|WP.cond Q (fun _=>?_) nofun
  refine sp ?_
  have H:=H.fH
  cases H.out; exact ek 1
 have H:=H.cf cp
 refine gl 3 [0]<|gr H fun gb H=>Dv.iY Q (gg Q) Q Q dW U9 c9 gb.1 gb.2<|mj Q (gg Q) Q qt Q<|gl 4 [0]<|ce H ?_ ?_ <;> intro H
 ·
  refine sp ?_
  have H:=H.fH
  cases H.out; exact ek 1
 refine WP.skip<|wd mX 17 0<|gp 3 ?_
 cases cq:decide (0<xc)
 ·
  have H:=H.cf cq
  refine go 14<|WP.cond Q nofun (fun _=>?_)
  exact WP.skip<|rg 3 0<|go 3<|bk ja (aw (xc+1)) H
 have H:=H.ct cq
 refine gl 4 [0]<|Dv.IA Q (gg Q) Q Q<|gr H fun gc H=>Dv.iY Q (gg Q) Q Q dW U9 c9 gc.1 gc.2<|mj Q (gg Q) Q qt Q<|gl 3 [0]<|gr H fun gi H=>Dv.iY Q (gg Q) Q Q dW U9 c9 gi.1 gi.2<|mj Q (gg Q) Q qt Q<|go 2<|cf H ?_ ?_ <;> intro H
 ·
  exact WP.skip<|rg 3 0<|go 3<|bk ja (aw (xc+1)) H
 refine sp ?_
 have H:=H.fH
 cases H.out; exact ek 1
theorem ew.c (h:ew.f k a0 a1=some r):Pt prog 148 [agg (aQ.enc a0),vS a1] (vI r):=by
 refine pf func148 h fun R0 F H=>?_
 refine wr 2 1<|Dv.box Q T Q cA nofun fun ba=>go 1<|sr H id [] (fun _=>[]) (fun _=>[]) (fun pa H=>?_) (fun H=>?_)
 ·
  refine sp ?_
  cases H.out; exact ek 1
 refine so<|WP.block<|ws 1 [0] 0 ?_
 refine lq (fun j_ (pc:Int)=>ew.l0 k a0 a1 j_ pc) 0 H [1,2] (fun pc=>[(5,vI pc)]) (fun _=>[]) ?_
 rintro j_ xc H
 rcases j_ with _ | ja
 ·
  exact (aV.no H).elim
 try dsimp only at H
 rw [ew.l0] at H
 refine WP.seq<|wr 5 0<|gl 3 [0]<|Dv.fg Q T Q rI<|go 1<|cf H ?_ ?_ <;> intro H
 ·
  refine WP.exit ?_
  have H:=H.out
  exact jn (xc,decide (xc<(a0.fL.length:Int))) H
 refine WP.skip<|WP.seq<|WP.block<|wr 8 0<|gl 3 [0]<|gr H fun ga H=>Dv.iY Q T Q Q rI mJ oU ga.1 ga.2<|fr Q T Q GL Q<|mj Q T Q qt Q<|go 2<|cf H ?_ ?_ <;> intro H
 ·
  exact WP.skip<|rg 3 0<|go 3<|bk ja (aw (xc+1)) H
 refine sp ?_
 have H:=H.fH
 cases H.out; exact ek 1
theorem dK.c (h:dK.f k a0 a1=some r):Pt prog 91 [agg (aQ.enc a0),agg (Event.enc a1)] (kN [agg (aQ.enc r.1),vI r.2]):=by
 refine pf func91 h fun R0 F H=>?_
 refine wr 4 7<|Dv.box Q T Q cA nofun fun ba=>Dv.box Q T Q cA nofun fun bc=>al Q T ot nofun fun bd=>go 1<|wr 3 0<|gl 1 [1]<|el H fun ta haa H=>cl Q (cL 147) Q (gJ.c haa)<|go 1<|WP.seq<|wr 9 0<|gp 3 ?_
 cases cc:!ta
 rotate_left
 ·
  have H:=H.ct cc
  refine go 6<|WP.cond Q (fun _=>?_) nofun
  refine wr 3 2<|gl 1 [2]<|sy 0 ?_
  refine gq 1 ?_
  cases H.out; exact r3 i2 Q (.cons (au Q lZ Q nX (ab 0 Q) Q) (.cons (aE Q) .nil))
 have H:=H.cf cc
 refine gl 6 [1,2]<|ce H ?_ ?_ <;> intro H
 ·
  refine wr 3 2<|gl 1 [2]<|sy 0 ?_
  refine gq 1 ?_
  cases H.out; exact r3 i2 Q (.cons (au Q lZ Q nX (ab 0 Q) Q) (.cons (aE Q) .nil))
 refine WP.skip<|WP.seq<|wr 5 0<|gl 3 [2,1]<|el H fun tc hac H=>cl Q (cL 148) Q (ew.c hac)<|go 1<|ce H ?_ ?_ <;> intro H
 ·
  refine wr 3 2<|gl 1 [2]<|sy 0 ?_
  refine gq 1 ?_
  cases H.out; exact r3 i2 Q (.cons (au Q lZ Q nX (ab 0 Q) Q) (.cons (aE Q) .nil))
 refine WP.skip<|sr H id [2,3,4] (fun _=>[]) (fun _=>[]) (fun pa H=>?_) (fun H=>?_)
 rotate_left
 ·
  refine so<|WP.block<|ws 3 [0,1,2] 0 ?_
  refine lq (fun j_ (pc:Int)=>dK.l0 k a0 a1 j_ pc) 0 H [2,3,4] (fun pc=>[(7,vI pc)]) (fun _=>[]) ?_
  rintro j_ xc H
  rcases j_ with _ | ja
  ·
   exact (aV.no H).elim
  try dsimp only at H
  rw [dK.l0] at H
  refine WP.seq<|wr 5 0<|gl 3 [1]<|Dv.fg Q T Q dW<|go 1<|cf H ?_ ?_ <;> intro H
  ·
   refine WP.exit ?_
   have H:=H.out
   exact jn (xc,decide (xc<(a1.ag.length:Int))) H
  refine WP.skip<|WP.seq<|WP.block<|wd mX 8 0<|gl 4 [2,1]<|gr H fun ga H=>Dv.iY Q T Q Q dW U9 c9 ga.1 ga.2<|mj Q T Q qt Q<|el H fun te had H=>cl Q (cL 148) Q (ew.c had)<|go 1<|cf H ?_ ?_ <;> intro H
  ·
   exact WP.skip<|rg 3 0<|go 3<|bk ja (aw (xc+1)) H
  refine wr 3 2<|gl 1 [2]<|sy 0 ?_
  refine gq 1 ?_
  have H:=H.fH
  cases H.out; exact r3 i2 Q (.cons (au Q lZ Q nX (ab 0 Q) Q) (.cons (aE Q) .nil))
 refine sr H id [2,3,4] (fun _=>[]) (fun _=>[]) (fun pe H=>?_) (fun H=>?_)
 ·
  refine so<|wr 5 8<|gl 3 [2]<|vg (eD Event.K none) fun _ _=>?_
  refine gr H fun gb H=>ap Event.K 0 a0.fL bS rI (.inr ⟨_,rI⟩) vL gb nofun fun va=>?_
  refine go 1<|wd mX 9 160<|gl 4 [3,2]<|Dv.lit Event.K ([a1]:List Event) (css:=[Event.enc a1]) Q T rI mJ oU E6 Q dc dc Q ⟨(aZ (Event.K.one _)),T⟩ Q Q Q<|gr H fun gc H=>Dv.Es (Kd:=Event.K) (jj:=0) (ys:=([a1]:List Event)) (fun vb:OV=>[own Event.K vb.1 ((([]:List Event)++a0.fL)++([a1]:List Event)),aI bd 113 [vS eE,eN],aI bc 110 (Event.enc a1),aI ba 113 (aQ.enc a0)]++F) Q T Q Q Q bS rI (.inr ⟨_,rI⟩) vL Q dc gc Q pD (fun vb=>?_)
  refine Dv.lp (qs:=[vS a0.aa,eq vb.1]) (css:=[[vS a0.aa],[eq vb.1]]) Q T lZ Fj A7 Q ⟨(cells_one (ah Q)),⟨(cells_one bK),T⟩⟩ Q Q<|sv 1 ?_
  refine go 1<|fz 0 [4,5] [1] ?_
  cases H.out; exact r3 i2 Q (.cons (au Q lZ Q nX (ab 0 Q) Q) (.cons (aE Q) .nil))
 refine r9 [1]<|cf H ?_ ?_ <;> intro H
 ·
  refine WP.skip ?_
  have H:=H.out
  exact jn () H
 refine wr 5 0<|gl 3 [2,1]<|el H fun tg hae H=>cl Q (cL 148) Q (ew.c hae)<|go 1<|WP.seq<|so<|ce H ?_ ?_ <;> intro H
 ·
  refine wr 3 2<|gl 1 [2]<|sy 0 ?_
  refine gq 1 ?_
  have H:=H.fH
  cases H.out; exact r3 i2 Q (.cons (au Q lZ Q nX (ab 0 Q) Q) (.cons (aE Q) .nil))
 refine WP.skip<|wr 16 0<|gl 3 [2]<|gr H fun gi H=>Dv.iY Q T Q Q rI mJ oU gi.1 gi.2<|fr Q T Q yS Q<|mj Q T Q qt Q<|gp 2 ?_
 cases cg:!decide (((Event.K.at a0.fL tg).ae)=eE)
 rotate_left
 ·
  have H:=H.ct cg
  refine go 8<|WP.cond Q (fun _=>?_) nofun
  refine wr 3 2<|gl 1 [2]<|sy 0 ?_
  refine gq 1 ?_
  have H:=H.fH
  cases H.out; exact r3 i2 Q (.cons (au Q lZ Q nX (ab 0 Q) Q) (.cons (aE Q) .nil))
 have H:=H.cf cg
 refine gl 3 [2]<|gr H fun gj H=>Dv.iY Q (gg Q) Q Q rI mJ oU gj.1 gj.2<|fr Q (gg Q) Q BZ Q<|mj Q (gg Q) Q IC Q<|go 2<|cf H ?_ ?_ <;> intro H
 ·
  refine WP.skip ?_
  have H:=H.out
  exact jn () H
 refine wr 3 2<|gl 1 [2]<|sy 0 ?_
 refine gq 1 ?_
 have H:=H.fH
 cases H.out; exact r3 i2 Q (.cons (au Q lZ Q nX (ab 0 Q) Q) (.cons (aE Q) .nil))
theorem eh.c (h:eh.f k a0 a1=some r):Pt prog 90 [agg (bF.enc a0),agg (Event.enc a1)] (kN [agg (bF.enc r.1),vI r.2]):=by
 refine pf func90 h fun R0 F H=>?_
 refine wr 4 7<|Dv.box Q T Q cA nofun fun ba=>Dv.box Q T Q cA nofun fun bc=>al Q T Ic nofun fun bd=>go 1<|wd mX 12 1536<|gl 3 [2,1]<|el H fun ta haa H=>cl Q (cL 77) Q (iJ.c haa)<|gl 1 [1]<|el H fun tc hac H=>cl Q (cL 91) Q (dK.c hac)<|go 1<|ei Q T Q Q<|ei Q T Q Q<|al Q T ot pD fun be=>sx 0 Q T Q Q cA sz113 Q Q Q pD ?_
 refine go 1<|WP.seq<|so<|ce H ?_ ?_ <;> intro H
 ·
  refine wr 4 4<|gl 2 [3]<|sy 1 ?_
  refine gq 1 ?_
  cases H.out; exact r4 i2 Q (.cons (au Q JT Q c33 (ab 1 Q) Q) (.cons (aE Q) .nil))
 refine WP.skip<|so<|so<|WP.lf H (fun qh:(Bool×Int×Bool×(List aQ))×OV=>qh.1) (fun qh=>[(4,eP bd),(6,eP be),(8,eq qh.2.1),(9,vB qh.1.1)]) (fun qh=>[aI be 113 (aQ.enc tc.1),aI bd 33 [eN],aI bc 110 (Event.enc a1),aI ba 33 (bF.enc a0),own aQ.K qh.2.1 qh.1.2.2.2]++F) (fun qh H=>?_) (fun H=>?_)
 ·
  obtain ⟨pa,va⟩:=qh
  refine WP.seq<|so<|cf H ?_ ?_ <;> intro H
  ·
   refine WP.skip<|wr 4 4<|go 1<|Dv.lp (qs:=[eq va.1]) (css:=[[eq va.1]]) Q T JT pl33 z33 Q ⟨(cells_one bK),T⟩ Q Q<|sy 1 ?_
   refine go 1<|fz 4 [4,5] [0,1] ?_
   cases H.out; exact r4 i2 Q (.cons (au Q JT Q c33 (ab 1 Q) Q) (.cons (aE Q) .nil))
  refine rg 5 8<|gl 2 [0]<|Dv.lit aQ.K ([tc.1]:List aQ) (css:=[aQ.enc tc.1]) Q T AL lZ nX A7 Q dc dc Q ⟨(aZ (aQ.K.one _)),T⟩ Q Q Q<|gr H fun ga H=>ap aQ.K 4 ([tc.1]:List aQ) bS AL (.inr ⟨_,AL⟩) BE ga nofun fun vb=>?_
  refine go 1<|wr 4 4<|go 1<|Dv.lp (qs:=[eq vb.1]) (css:=[[eq vb.1]]) Q T JT pl33 z33 Q ⟨(cells_one bK),T⟩ Q Q<|sy 1 ?_
  refine go 1<|fz 4 [4,5] [0,1] ?_
  cases H.out; exact r4 i2 Q (.cons (au Q JT Q c33 (ab 1 Q) Q) (.cons (aE Q) .nil))
 refine so<|WP.block<|wg (eD aQ.K none) fun _ _=>?_
 refine ws 5 [1,2,3,4,0] 0 ?_
 refine lq (fun j_ (pc:Bool×Int×(List aQ)×OV)=>eh.l0 k a0 a1 tc j_ pc.1 pc.2.1 pc.2.2.1) (false,0,([]:List aQ),lA) H [2,3,4,6] (fun pc=>[(8,eq pc.2.2.2.1),(9,vB pc.1),(10,vI pc.2.1)]) (fun pc=>[(4,own aQ.K pc.2.2.2.1 pc.2.2.1)]) ?_
 rintro j_ ⟨xc,xd,xe,vd⟩ H
 rcases j_ with _ | ja
 ·
  exact (aV.no H).elim
 try dsimp only at H
 rw [eh.l0] at H
 refine WP.seq<|wr 5 0<|gl 3 [3]<|Dv.fg Q T Q AL<|go 1<|cf H ?_ ?_ <;> intro H
 ·
  refine WP.exit ?_
  have H:=H.out
  exact jn ((xc,xd,decide (xd<(a0.fD.length:Int)),xe),vd) H
 refine WP.skip<|WP.seq<|WP.block<|WP.lf H (fun qi:(Bool×Bool×(List aQ))×OV=>qi.1) (fun qi=>[(2,eP ba),(3,eP bc),(4,eP bd),(6,eP be),(8,eq qi.2.1),(9,vB qi.1.1),(10,vI xd)]) (fun qi=>[aI be 113 (aQ.enc tc.1),aI bd 33 [eN],aI bc 110 (Event.enc a1),aI ba 33 (bF.enc a0),own aQ.K qi.2.1 qi.1.2.2]++F) (fun qi H=>?_) (fun H=>?_)
 ·
  obtain ⟨pe,ve⟩:=qi
  refine wd mX 9 0<|gl 3 [3]<|gr H fun gb H=>Dv.iY Q T Q Q AL lZ nX gb.1 gb.2<|fr Q T Q yd Q<|mj Q T Q qt Q<|gl 3 [2]<|cf H ?_ ?_ <;> intro H
  ·
   exact WP.skip<|rg 3 0<|go 3<|bk ja (pe.1,aw (xd+1),pe.2.2,ve) H
  refine rg 9 128<|gl 4 [3]<|gr H fun gc H=>Dv.iY Q T Q Q AL lZ nX gc.1 gc.2<|kM Q T Q I1 Q<|Dv.lit aQ.K ([aQ.K.at a0.fD xd]:List aQ) (css:=[aQ.enc (aQ.K.at a0.fD xd)]) Q T AL lZ nX A7 Q dc dc Q ⟨(aZ (aQ.K.one _)),T⟩ Q Q Q<|gr H fun gi H=>ap aQ.K 4 ([aQ.K.at a0.fD xd]:List aQ) bS AL (.inr ⟨_,AL⟩) BE gi nofun fun vh=>?_
  exact go 1<|rg 3 0<|go 3<|bk ja (pe.1,aw (xd+1),pe.2.2++([aQ.K.at a0.fD xd]:List aQ),vh) H
 refine wd mX 13 0<|gp 3 ?_
 cases cc:!xc
 ·
  have H:=H.cf cc
  refine go 10<|WP.cond Q nofun (fun _=>?_)
  refine WP.skip ?_
  have H:=H.out
  exact jn ((xc,false,xe),vd) H
 have H:=H.ct cc
 refine gl 5 [2,3]<|gr H fun gj H=>Dv.iY Q (gg Q) Q Q AL lZ nX gj.1 gj.2<|fr Q (gg Q) Q yd Q<|mj Q (gg Q) Q qt Q<|go 2<|cf H ?_ ?_ <;> intro H
 ·
  refine WP.skip ?_
  have H:=H.out
  exact jn ((xc,!dO ((aQ.K.at a0.fD xd).aa) a1.aa,xe),vd) H
 refine wr 5 8<|gl 2 [0]<|Dv.lit aQ.K ([tc.1]:List aQ) (css:=[aQ.enc tc.1]) Q T AL lZ nX A7 Q dc dc Q ⟨(aZ (aQ.K.one _)),T⟩ Q Q Q<|gr H fun gk H=>ap aQ.K 4 ([tc.1]:List aQ) bS AL (.inr ⟨_,AL⟩) BE gk nofun fun vi=>?_
 refine go 1<|rg 1 0<|gq 1 ?_
 have H:=H.out
 exact jn ((true,!dO ((aQ.K.at a0.fD xd).aa) a1.aa,xe++([tc.1]:List aQ)),vi) H
theorem gP.c (h:gP.f k a0=some r):Pt prog 36 [sl Event.K a0] (agg (bF.enc r)):=by
 refine pf func36 h fun R0 F H=>?_
 refine wr 1 1<|al Q T Ic nofun fun ba=>.fin<|wr 1 1<|al Q T Ic nofun fun bc=>.fin<|sq H id [2,3] (fun _=>[]) (fun pa=>[(0,aI bc 33 [sl aQ.K pa.2.2])]) (fun pa H=>?_) (fun H=>?_)
 ·
  refine wr 2 2<|gl 1 [0]<|sy 1 ?_
  refine .fin ?_
  cases H.out; exact r2 i2 Q (.cons (au Q JT Q c33 (ab 1 Q) Q) .nil)
 refine so<|WP.block<|WP.gh (Jb (E':=[(0,sl Event.K a0),(2,eP ba),(3,eP bc),(4,vI 0)]) (l':=[aI bc 33 [sl aQ.K ([]:List aQ)],aI ba 33 [eN]]++F) (lv Q cM (lv Q cM (lv Q cM (lv Q cM CJ)))) (gC (.cons (BU (.cons dD .nil)) (.cons yz .nil)) fun _=>yz)) (fun _ _=>?_)
 refine ws 2 [0,1] 0 ?_
 refine lq (fun j_ (pc:Int×(List aQ))=>gP.l0 k a0 j_ pc.1 pc.2) (0,([]:List aQ)) H [0,2,3] (fun pc=>[(4,vI pc.1)]) (fun pc=>[(0,aI bc 33 [sl aQ.K pc.2])]) ?_
 rintro j_ ⟨xc,xd⟩ H
 rcases j_ with _ | ja
 ·
  exact (aV.no H).elim
 try dsimp only at H
 rw [gP.l0] at H
 refine WP.seq<|wr 4 0<|go 2<|Dv.fg Q T Q rI<|go 1<|cf H ?_ ?_ <;> intro H
 ·
  refine WP.exit ?_
  have H:=H.out
  exact jn (xc,decide (xc<(a0.length:Int)),xd) H
 refine WP.skip<|WP.seq<|WP.block<|wd mX 12 1536<|gl 3 [0]<|gr H fun ga H=>Dv.iY Q T Q Q rI mJ oU ga.1 ga.2<|kM Q T Q IW Q<|el H fun ta haa H=>cl Q (cL 90) Q (eh.c haa)<|go 1<|ei Q T Q Q<|ei Q T Q Q<|al Q T Ic pD fun bd=>sx 0 Q T Q Q cA sz33 Q Q Q pD ?_
 refine go 1<|rg 2 2<|gl 1 [0]<|sy 1 ?_
 refine .fin<|rg 3 0<|go 3<|ns 3 [0,1,2] 1 ?_
 exact bk ja (aw (xc+1),ta.1.fD) H
theorem ff.c (h:ff.f k a0 a1=some r):Tr prog 8 [sl Event.K a0,vI a1] [] (γ:=OV×OV×OV×OV×OV) (fun _=>True) (fun g=>kN [agg [eq g.1.1,eq g.2.1.1,eq g.2.2.1.1,eq g.2.2.2.1.1,eq g.2.2.2.2.1],agg (dt.enc r.2.1),vB r.2.2]) (fun g=>[aL.O g.1 r.1.cO,jF.O g.2.1 r.1.ay,bZ.O g.2.2.1 r.1.av,cI.O g.2.2.2.1 r.1.aU,cH.O g.2.2.2.2 r.1.gH]):=by
 refine tf func8 h fun R0 F H=>?_
 refine wr 3 3<|al Q T Iz nofun fun ba=>al Q T BG nofun fun bc=>go 1<|wr 6 1<|el H fun ta haa H=>cx 2 [0,1] (cL 30) (oh.c haa) nofun fun ga _=>?_
 refine go 1<|ei Q T Q Q<|ei Q T Q Q<|go 2<|wr 9 8<|go 3<|el H fun tc hac H=>cx 3 [0,1,2] (cL 31) (mZ.c hac) nofun fun gb _=>?_
 refine go 1<|ei Q T Q Q<|ei Q T Q Q<|go 2<|wr 8 205<|el H fun te had H=>cx 4 [0,1,2,3] (cL 32) (rz.c had) nofun fun gc _=>?_
 refine go 1<|el H fun tg hae H=>cx 5 [0,1,2,3,4] (cL 33) (nq.c hae) nofun fun gi _=>?_
 refine el H fun tj haf H=>cx 6 [0,1,2,3,4,5] (cL 34) (lB.c haf) nofun fun gj _=>?_
 refine go 1<|gr H fun gk H=>vg (rJ 4 Q (isN gk)) fun _ _=>?_
 refine gr H fun gm H=>vg (rJ 4 Q (isN gm)) fun _ _=>?_
 refine Dv.lp (qs:=[eq gc.1,eq ga.1,eq gi.1,eq gj.1,eq gb.1]) (css:=[[eq gc.1],[eq ga.1],[eq gi.1],[eq gj.1],[eq gb.1]]) Q T KP pl30 z30 Q ⟨(cells_one bK),⟨(cells_one bK),⟨(cells_one bK),⟨(cells_one bK),⟨(cells_one bK),T⟩⟩⟩⟩⟩ Q Q<|al Q T Iz nofun fun bd=>sy 0 ?_
 refine .fin<|WP.seq<|wr 31 0<|gl 2 [0]<|Dv.E8 aL.nn Q T Q Q U24 (ab 5 Q)<|gl 3 [0]<|Dv.E8 jF.nn Q (gg Q) Q Q U25 (ab 2 Q)<|gl 4 [0]<|Dv.E8 bZ.nn Q (gg Q) Q Q U26 (ab 4 Q)<|gl 4 [0]<|Dv.E8 cI.nn Q (gg Q) Q Q U27 (ab 3 Q)<|gl 4 [0]<|Dv.E8 cH.nn Q (gg Q) Q Q U28 (ab 1 Q)<|gp 6 ?_
 rcases bm H with ⟨cc,H⟩ | ⟨cc,H⟩
 rotate_left
 ·
  refine sh 55 cc ?_
  refine sh 56 cc ?_
  refine sh 57 cc ?_
  refine go 3<|WP.cond Q (fun _=>?_) nofun
  refine wr 5 12<|gl 1 [0]<|Dv.lp (qs:=[eN,eN,eN,eN,eN,eN,eN,vI 0]) (css:=[]) Q T Bf HA z43 Q T Q Q<|sy 7 ?_
  refine sy 6 ?_
  refine gq 1 ?_
  obtain rfl:=aV.out H
  exact rt i2 Q (gc,ga,gi,gj,gb) 8 [0,6,7,5,2,4,3,1] 3 (.cons (au Q KP Q c30 (ab 7 Q) Q) (.cons (pM (au Q Bf Q Ft (ab 6 Q) Q) (oJ (.cons dD (.cons dD (.cons dD (.cons dD (.cons dD (.cons dD (.cons dD (.cons cM .nil)))))))))) (.cons (aE Q) .nil)))
 refine sh 55 cc ?_
 refine sh 56 cc ?_
 refine sh 57 cc ?_
 refine go 3<|ce H ?_ ?_ <;> intro H
 ·
  refine wr 5 12<|gl 1 [0]<|Dv.lp (qs:=[eN,eN,eN,eN,eN,eN,eN,vI 0]) (css:=[]) Q T Bf HA z43 Q T Q Q<|sy 7 ?_
  refine sy 6 ?_
  refine gq 1 ?_
  obtain rfl:=aV.out H
  exact rt i2 Q (gc,ga,gi,gj,gb) 8 [0,6,7,5,2,4,3,1] 3 (.cons (au Q KP Q c30 (ab 7 Q) Q) (.cons (pM (au Q Bf Q Ft (ab 6 Q) Q) (oJ (.cons dD (.cons dD (.cons dD (.cons dD (.cons dD (.cons dD (.cons dD (.cons cM .nil)))))))))) (.cons (aE Q) .nil)))
 refine WP.skip<|WP.xS H id (fun pa=>[(0,sl Event.K a0),(1,vI a1),(4,eP ba),(5,eP bc),(11,eP bd)]) (fun pa=>[aI bd 30 [eq gc.1,eq ga.1,eq gi.1,eq gj.1,eq gb.1],aI bc 43 [eN,eN,eN,eN,eN,eN,eN,vI 0],aI ba 30 [eq (.pointer none),eq (.pointer none),eq (.pointer none),eq (.pointer none),eq (.pointer none)],cH.O gb (tc.1.getD default),jF.O ga (ta.1.getD default),cI.O gj tj,bZ.O gi tg,aL.O gc pa.2.2]++F) (fun pa H=>?_) (fun H=>?_)
 ·
  refine wd mX 8 96<|gl 2 [0]<|el H fun tm hag H=>cl Q (cL 36) Q (gP.c hag)<|go 1<|Dv.lp (qs:=[sl aQ.K tm.fD,eN,eN,eN,eN,eN,eN,vI a1]) (css:=[bF.enc tm,[vI a1]]) Q T Bf HA z43 Q ⟨(aZ (bF.K.one _)),⟨(cells_one (ah Q)),T⟩⟩ Q Q<|sx 2 Q T Q Q cA sz30 Q Q Q pD ?_
  refine sv 1 ?_
  refine gq 1 ?_
  obtain rfl:=aV.out H
  exact rt i2 Q (gc,ga,gi,gj,gb) 8 [0,1,2,7,4,6,5,3] 3 (.cons (au Q KP Q c30 (ab 2 Q) Q) (.cons (pM (au Q Bf Q Ft (ab 1 Q) Q) (oJ (.cons cM (.cons dD (.cons dD (.cons dD (.cons dD (.cons dD (.cons dD (.cons cM .nil)))))))))) (.cons (aE Q) .nil)))
 refine so<|WP.block<|ws 8 [0,6,7,1,2,3,4,5] 0 ?_
 refine lq (fun j_ (pc:Int×aL)=>ff.l0 k a0 ta tc tg tj j_ pc.1 pc.2) (0,te) H [0,1,4,5,11] (fun pc=>[(12,vI pc.1)]) (fun pc=>[(7,aL.O gc pc.2)]) ?_
 rintro j_ ⟨xc,xd⟩ H
 rcases j_ with _ | ja
 ·
  exact (aV.no H).elim
 try dsimp only at H
 rw [ff.l0] at H
 refine WP.seq<|wr 4 0<|go 2<|Dv.fg Q T Q rI<|go 1<|cf H ?_ ?_ <;> intro H
 ·
  refine WP.exit ?_
  have H:=H.out
  exact jn (xc,decide (xc<(a0.length:Int)),xd) H
 refine WP.skip<|WP.seq<|WP.block<|wd mX 8 64<|gl 4 [0]<|gr H fun gn H=>Dv.iY Q T Q Q rI mJ oU gn.1 gn.2<|kM Q T Q IW Q<|el H fun tn hah H=>cx 8 [7,0,1,2,3,4,5,6] (cL 35) (iC.c hah (p0_:=gc)) pC fun _ _=>?_
 refine go 1<|cf H ?_ ?_ <;> intro H
 ·
  refine WP.skip<|rg 3 0<|go 3<|ns 8 [1,2,3,4,5,6,7,0] 0 ?_
  exact bk ja (aw (xc+1),tn.2) H
 refine wr 5 12<|gl 1 [1]<|Dv.lp (qs:=[eN,eN,eN,eN,eN,eN,eN,vI 0]) (css:=[]) Q T Bf HA z43 Q T Q Q<|sy 3 ?_
 refine sy 2 ?_
 refine gq 1 ?_
 have H:=H.fH
 obtain rfl:=aV.out H
 exact rt i2 Q (gc,ga,gi,gj,gb) 8 [1,2,3,0,5,7,6,4] 3 (.cons (au Q KP Q c30 (ab 3 Q) Q) (.cons (pM (au Q Bf Q Ft (ab 2 Q) Q) (oJ (.cons dD (.cons dD (.cons dD (.cons dD (.cons dD (.cons dD (.cons dD (.cons cM .nil)))))))))) (.cons (aE Q) .nil)))
theorem bp.c (h:bp.f a0 a1=some r):Pt prog 10 [vI a0,vI a1] (vI r):=by
 refine pf func10 h fun R0 F H=>?_
 refine so<|WP.seq<|so<|cf H ?_ ?_ <;> intro H
 ·
  refine WP.skip<|wr 4 0<|go 2<|gr H fun ga H=>nV Q Q Q (qI ga)<|gq 1 ?_
  cases H.out; exact ek 0
 refine rg 4 0<|go 4<|wr 4 0<|go 2<|gr H fun gb H=>nV Q Q Q (qI gb)<|gq 1 ?_
 cases H.out; exact ek 0
theorem fb.c (h:fb.f a0=some r):Pt prog 18 [vI a0] (vS r):=by
 refine pf func18 h fun R0 F H=>?_
 refine so<|wr 6 0<|Dv.lit aH ([(⟨#[33,114,58,115,49]⟩:BA),(⟨#[33,113,58,115,50]⟩:BA)]:List BA) (css:=[[vS (⟨#[33,114,58,115,49]⟩:BA)],[vS (⟨#[33,113,58,115,50]⟩:BA)]]) Q T dW U9 c9 z9 Q dc dc Q ⟨(cells_one (ah Q)),⟨(cells_one (ah Q)),T⟩⟩ Q Q Q<|go 1<|el H fun ta haa H=>cl Q (cL 10) Q (bp.c haa)<|gr H fun ga H=>Dv.iY Q T Q Q dW U9 c9 ga.1 ga.2<|mj Q T Q qt Q<|gq 1 ?_
 cases H.out; exact ek 0
theorem mR.c (h:mR.f a0=some r):Pt prog 52 [vI a0] (vS r):=by
 refine pf func52 h fun R0 F H=>?_
 refine so<|wr 6 0<|Dv.lit aH ([(⟨#[115,49]⟩:BA),(⟨#[115,50]⟩:BA),(⟨#[115,51]⟩:BA)]:List BA) (css:=[[vS (⟨#[115,49]⟩:BA)],[vS (⟨#[115,50]⟩:BA)],[vS (⟨#[115,51]⟩:BA)]]) Q T dW U9 c9 z9 Q dc dc Q ⟨(cells_one (ah Q)),⟨(cells_one (ah Q)),⟨(cells_one (ah Q)),T⟩⟩⟩ Q Q Q<|go 1<|el H fun ta haa H=>cl Q (cL 10) Q (bp.c haa)<|gr H fun ga H=>Dv.iY Q T Q Q dW U9 c9 ga.1 ga.2<|mj Q T Q qt Q<|gq 1 ?_
 cases H.out; exact ek 0
theorem gU.c (h:gU.f a0=some r):Pt prog 13 [vI a0] (vS r):=by
 refine pf func13 h fun R0 F H=>?_
 refine so<|wr 3 0<|go 1<|el H fun ta haa H=>cl Q (cL 10) Q (bp.c haa)<|go 1<|wd mX 10 0<|Dv.lit aH ([(⟨#[64,97,58]⟩:BA),(⟨#[64,98,58]⟩:BA),(⟨#[64,99,58]⟩:BA)]:List BA) (css:=[[vS (⟨#[64,97,58]⟩:BA)],[vS (⟨#[64,98,58]⟩:BA)],[vS (⟨#[64,99,58]⟩:BA)]]) Q T dW U9 c9 z9 Q dc dc Q ⟨(cells_one (ah Q)),⟨(cells_one (ah Q)),⟨(cells_one (ah Q)),T⟩⟩⟩ Q Q Q<|go 1<|nV Q Q Q (nO dc)<|gr H fun ga H=>Dv.iY Q T Q Q dW U9 c9 ga.1 ga.2<|mj Q T Q qt Q<|go 1<|nV Q Q Q (qI dc)<|el H fun tc hac H=>cl Q (cL 52) Q (mR.c hac)<|gr H fun gb H=>nV Q Q Q (iv gb)<|gq 1 ?_
 cases H.out; exact ek 0
theorem il.c:∀ (k:Nat) {a0:Int} {r:BA} (h:il.f k a0=some r),Pt prog 117 [vI a0] (vS r)
  | 0,_,_,h=>by cases h
  | k+1,a0,r,h=>by
    rw [il.f] at h
    refine pb func117 ntmps117 h fun R0 F H=>?_
    refine so<|wr 3 0<|go 1<|nV Q Q Q (qI dc)<|go 1<|sq H id [0] (fun pa=>[(3,vI pa)]) (fun _=>[]) (fun pa H=>?_) (fun H=>?_)
    rotate_left
    ·
     refine so<|cf H ?_ ?_ <;> intro H
     ·
      refine WP.skip ?_
      have H:=H.out
      exact jn (a0.tmod 10) H
     refine rg 3 0<|gq 3 ?_
     have H:=H.out
     exact jn (aw (0-(a0.tmod 10))) H
    refine wr 6 0<|go 2<|Dv.HM Q T Q U3 U5<|Dv.lit (bG .u8) ([IntKind.u8.wrap (aw (48+pa))]:List Int) (css:=[[eq (.int .u8 (IntKind.u8.wrap (aw (48+pa))))]]) Q T iZ U5 c5 z5 Q dc dc Q ⟨(cells_one (ah Q)),T⟩ Q Q Q<|Dv.Km Q T Q iZ U5 U9<|go 1<|WP.seq<|wr 6 0<|gp 3 ?_
    cases cc:decide ((-10)<a0)
    ·
     have H:=H.cf cc
     refine go 3<|WP.cond Q nofun (fun _=>?_)
     refine WP.skip<|wr 6 0<|go 1<|nV Q Q Q (nO dc)<|el H fun ta haa H=>cl Q (cL 117) Q (il.c k haa)<|go 1<|gr H fun ga H=>nV Q Q Q (iv ga)<|gq 1 ?_
     cases H.out; exact ek 0
    have H:=H.ct cc
    refine go 3<|cf H ?_ ?_ <;> intro H
    ·
     refine WP.skip<|wr 6 0<|go 1<|nV Q Q Q (nO dc)<|el H fun tc hac H=>cl Q (cL 117) Q (il.c k hac)<|go 1<|gr H fun gb H=>nV Q Q Q (iv gb)<|gq 1 ?_
     cases H.out; exact ek 0
    refine WP.seq<|so<|cf H ?_ ?_ <;> intro H
    ·
     refine WP.skip<|sp ?_
     cases H.out; exact ek 0
    refine wr 3 0<|go 1<|gr H fun gc H=>nV Q Q Q (iv gc)<|gq 1 ?_
    cases H.out; exact ek 0
theorem dq.c (h:dq.f k a0=some r):Pt prog 50 [vI a0] (vS r):=by
 refine pf func50 h fun R0 F H=>?_
 refine so<|wr 5 0<|go 1<|el H fun ta haa H=>cl Q (cL 10) Q (bp.c haa)<|el H fun tc hac H=>cl Q (cL 117) Q (il.c _ hac)<|gr H fun ga H=>nV Q Q Q (iv ga)<|gq 1 ?_
 cases H.out; exact ek 0
theorem bJ.c (h:bJ.f k a0 a1=some r):Pt prog 37 [vS a0,sl dw.K a1] (agg (aQ.enc r)):=by
 refine pf func37 h fun R0 F H=>?_
 refine wr 1 1<|al Q T ot nofun fun ba=>.fin<|wr 4 12<|go 1<|Dv.lp (qs:=[vS a0,eN]) (css:=[[vS a0]]) Q T lZ Fj A7 Q ⟨(cells_one (ah Q)),T⟩ Q Q<|al Q T ot nofun fun bc=>sy 0 ?_
 refine .fin<|WP.lf H id (fun pa=>[(4,eP ba),(5,eP bc)]) (fun pa=>[aI bc 113 [vS pa.2.2.1,sl Event.K pa.2.2.2],aI ba 113 [vS eE,eN]]++F) (fun pa H=>?_) (fun H=>?_)
 ·
  refine wr 2 2<|gl 1 [0]<|sy 1 ?_
  refine .fin ?_
  cases H.out; exact r2 i2 Q (.cons (au Q lZ Q nX (ab 1 Q) Q) .nil)
 refine so<|WP.block<|WP.gh (Jb (E':=[(0,vS a0),(1,sl dw.K a1),(4,eP ba),(5,eP bc),(6,vI 0)]) (l':=[aI bc 113 [vS a0,sl Event.K ([]:List Event)],aI ba 113 [vS eE,eN]]++F) (lv Q cM (lv Q cM (lv Q cM (lv Q cM (lv Q cM CJ))))) (gC (.cons (BU (.cons cM (.cons dD .nil))) (.cons yz .nil)) fun _=>yz)) (fun _ _=>?_)
 refine ws 2 [0,1] 0 ?_
 refine lq (fun j_ (pc:Int×BA×(List Event))=>bJ.l0 k a0 a1 j_ pc.1 pc.2.1 pc.2.2) (0,a0,([]:List Event)) H [0,1,4,5] (fun pc=>[(6,vI pc.1)]) (fun pc=>[(0,aI bc 113 [vS pc.2.1,sl Event.K pc.2.2])]) ?_
 rintro j_ ⟨xc,xd,xe⟩ H
 rcases j_ with _ | ja
 ·
  exact (aV.no H).elim
 try dsimp only at H
 rw [bJ.l0] at H
 refine WP.seq<|wr 8 0<|go 2<|Dv.fg Q T Q KZ<|gp 2 ?_
 cases cc:decide (xc<(a1.length:Int))
 ·
  have H:=H.cf cc
  refine go 3<|WP.cond Q nofun (fun _=>?_)
  refine WP.exit ?_
  have H:=H.out
  exact jn (xc,false,xd,xe) H
 have H:=H.ct cc
 refine go 3<|cf H ?_ ?_ <;> intro H
 ·
  refine WP.exit ?_
  have H:=H.out
  exact jn (xc,decide (xc<9),xd,xe) H
 refine WP.skip<|WP.lf H (fun qh:(Int×Int×Bool×Bool×Bool×BA×(List Event)×(List Bool))×OV=>qh.1) (fun qh=>[(0,vS a0),(1,sl dw.K a1),(4,eP ba),(5,eP bc),(6,vI xc)]) (fun qh=>[aI bc 113 [vS qh.1.2.2.2.2.2.1,sl Event.K qh.1.2.2.2.2.2.2.1],aI ba 113 [vS eE,eN],own dj qh.2.1 qh.1.2.2.2.2.2.2.2]++F) (fun qh H=>?_) (fun H=>?_)
 ·
  obtain ⟨pe,va⟩:=qh
  refine rg 3 0<|go 3<|ns 3 [2,0,1] 1 ?_
  exact bk ja (aw (xc+1),pe.2.2.2.2.2.1,pe.2.2.2.2.2.2.1) H
 refine WP.block<|wd mX 18 196608<|go 1<|el H fun ta haa H=>cl Q (cL 50) Q (dq.c haa)<|go 3<|gr H fun ga H=>Dv.iY Q T Q Q KZ yI zu ga.1 ga.2<|fr Q T Q G3 Q<|mj Q T Q IC Q<|el H fun tc hac H=>cl Q (cL 13) Q (gU.c hac)<|go 2<|gr H fun gb H=>Dv.iY Q T Q Q KZ yI zu gb.1 gb.2<|fr Q T Q Hw Q<|mj Q T Q IC Q<|el H fun te had H=>cl Q (cL 10) Q (bp.c had)<|Dv.lp (qs:=[vS ta,vS a0,eN,vS eE,vS tc,vI te]) (css:=[[vS ta],[vS a0],[vS tc],[vI te]]) Q T mJ IX E6 Q ⟨(cells_one (ah Q)),⟨(cells_one (ah Q)),⟨(cells_one (ah Q)),⟨(cells_one (ah Q)),T⟩⟩⟩⟩ Q Q<|al Q T zw pD fun bd=>sv 0 ?_
 refine .fin<|wr 2 1<|gr H fun gc H=>?_
 obtain ⟨ti623,ti623a,ti623b,ti623c,ti623d⟩:=Ag
 refine Dv.AJ (Kd:=dj) (false:Bool) Q T Q Q rZ ti623a ti623b ti623c ti623d Q dc Q gc nofun (fun vb=>?_)
 refine go 1<|WP.lf H id (fun pg=>[(0,vS a0),(1,sl dw.K a1),(4,eP ba),(5,eP bc),(6,vI xc),(7,eP bd),(8,eq vb.1)]) (fun pg=>[aI bd 110 [vS ta,vS a0,eN,vS eE,vS tc,vI te],aI bc 113 [vS xd,sl Event.K xe],aI ba 113 [vS eE,eN],own dj vb.1 pg.2.2]++F) (fun pg H=>?_) (fun H=>?_)
 rotate_left
 ·
  refine so<|WP.block<|ws 4 [1,2,3,0] 0 ?_
  refine lq (fun j_ (ph:Int×(List Bool))=>bJ.l2 k a1 xc j_ ph.1 ph.2) (0,List.replicate (9:Int).toNat (false:Bool)) H [0,1,4,5,6,7,8] (fun ph=>[(9,vI ph.1)]) (fun ph=>[(3,own dj vb.1 ph.2)]) ?_
  rintro j_ ⟨xf,xg⟩ H
  rcases j_ with _ | jc
  ·
   exact (aV.no H).elim
  try dsimp only at H
  rw [bJ.l2] at H
  refine WP.seq<|wr 16 0<|go 3<|gr H fun gi H=>Dv.iY Q T Q Q KZ yI zu gi.1 gi.2<|fr Q T Q CG Q<|mj Q T Q sc38 Q<|Dv.fg Q T Q qZ<|gp 2 ?_
  cases cg:decide (xf<(((dw.K.at a1 xc).ag).length:Int))
  ·
   have H:=H.cf cg
   refine go 7<|WP.cond Q nofun (fun _=>?_)
   refine WP.exit ?_
   have H:=H.out
   exact jn (xf,false,xg) H
  have H:=H.ct cg
  refine gp 4 ?_
  cases ci:decide (xf<3)
  ·
   have H:=H.cf ci
   refine go 3<|WP.cond Q nofun (fun _=>?_)
   refine WP.exit ?_
   have H:=H.out
   exact jn (xf,false,xg) H
  have H:=H.ct ci
  refine go 3<|cf H ?_ ?_ <;> intro H
  ·
   refine WP.exit ?_
   have H:=H.out
   exact jn (xf,decide (0<xc),xg) H
  refine WP.skip<|WP.seq<|WP.block<|rg 13 4096<|go 3<|gr H fun gj H=>Dv.iY Q T Q Q KZ yI zu gj.1 gj.2<|fr Q T Q CG Q<|mj Q T Q sc38 Q<|go 1<|gr H fun gk H=>Dv.iY Q T Q Q qZ U3 c3 gk.1 gk.2<|mj Q T Q IC Q<|go 1<|el H fun tg hae H=>cl Q (cL 10) Q (bp.c hae)<|gr H fun gm H=>?_
  have haf:tg.toNat<xg.length:=bE gm
  exact Dv.kA Q T Q (ab 3 Q) Q rZ U4 c4 gm.1 gm.2<|Dv.HX (j:=tg.toNat) (f:=0) (jj:=3) true Q T Q Q (cells_one (ah Q)) U4 c4 Q Q haf (Nat.le_of_ble_eq_true Q) Q nofun<|.fin<|rg 3 0<|go 3<|bk jc (aw (xf+1),xg.set tg.toNat true) H
 refine WP.lf H (fun qi:(Int×Bool×(List BA))×OV=>qi.1) (fun qi=>[(0,vS a0),(1,sl dw.K a1),(4,eP ba),(5,eP bc),(6,vI xc),(7,eP bd)]) (fun qi=>[aI bd 110 [vS ta,vS a0,eq qi.2.1,vS eE,vS tc,vI te],aI bc 113 [vS xd,sl Event.K xe],aI ba 113 [vS eE,eN],own dj vb.1 pg.2.2,own aH qi.2.1 qi.1.2.2]++F) (fun qi H=>?_) (fun H=>?_)
 rotate_left
 ·
  refine so<|WP.block<|wg (eD aH none) fun _ _=>?_
  refine ws 5 [1,2,3,4,0] 0 ?_
  refine lq (fun j_ (pi:Int×(List BA)×OV)=>bJ.l1 k xc pg j_ pi.1 pi.2.1) (0,([]:List BA),lA) H [0,1,4,5,6,7,8] (fun pi=>[(10,vI pi.1)]) (fun pi=>[(0,aI bd 110 [vS ta,vS a0,eq pi.2.2.1,vS eE,vS tc,vI te]),(4,own aH pi.2.2.1 pi.2.1)]) ?_
  rintro j_ ⟨xi,xj,vd⟩ H
  rcases j_ with _ | jd
  ·
   exact (aV.no H).elim
  try dsimp only at H
  rw [bJ.l1] at H
  refine WP.seq<|so<|cf H ?_ ?_ <;> intro H
  ·
   refine WP.exit ?_
   have H:=H.out
   exact jn ((xi,decide (xi<xc),xj),vd) H
  refine WP.skip<|WP.seq<|WP.block<|wr 4 0<|go 2<|gr H fun gn H=>?_
  have hag:xi.toNat<pg.2.2.length:=bE gn
  refine Dv.kA Q T Q (ab 3 Q) Q rZ U4 c4 gn.1 gn.2<|Dv.o6 (j:=xi.toNat) (f:=0) (p:=vB (pg.2.2.getD xi.toNat default)) Q T Q (ab 3 Q) hag U4 Q Q<|.fin<|cf H ?_ ?_ <;> intro H
  ·
   exact WP.skip<|rg 3 0<|go 3<|bk jd (aw (xi+1),xj,vd) H
  refine dg mX 8 160<|gl 3 [0]<|el H fun tj hah H=>cl Q (cL 50) Q (dq.c hah)<|Dv.lit aH ([tj]:List BA) (css:=[[vS tj]]) Q T dW U9 c9 z9 Q dc dc Q ⟨(cells_one (ah Q)),T⟩ Q Q Q<|gr H fun gu H=>ap aH 4 ([tj]:List BA) bS dW (.inr ⟨_,dW⟩) zF gu pB fun ve=>?_
  refine go 1<|sx 0 Q T Q Q (cells_one bK) G4 Q Q Q pB ?_
  exact .fin<|rg 3 0<|go 3<|bk jd (aw (xi+1),xj++([tj]:List BA),ve) H
 obtain ⟨pj,vh⟩:=qi
 refine WP.seq<|wr 7 0<|kK 4 [0] ?_
 cases cj:(te==0)
 ·
  have H:=H.cf cj
  refine go 3<|WP.cond Q nofun (fun _=>?_)
  refine WP.skip<|wr 9 192<|gl 2 [1,0]<|Dv.gh (nS (E':=[(0,vS a0),(1,sl dw.K a1),(4,eP ba),(5,eP bc),(6,vI xc),(7,eP bd),(95,vB false),(129,agg [vS xd,sl Event.K xe]),(130,agg [vS ta,vS a0,sl aH pj.2.2,vS eE,vS tc,vI te])]) (l':=[aI bd 110 [vS ta,vS a0,sl aH pj.2.2,vS eE,vS tc,vI te],aI bc 113 [vS xd,sl Event.K xe],aI ba 113 [vS eE,eN],own dj vb.1 pg.2.2]++F) 4 Q (ar Q az (ar Q az (ar Q az (ar Q az (ar Q az (ar Q az (ar Q az (ar Q az (ar Q (sf (.cons az (.cons az (.cons j4 (.cons az (.cons az (.cons az .nil))))))) jl))))))))) (gC (.cons (o3 (.cons az (.cons az (.cons j4 (.cons az (.cons az (.cons az .nil))))))) (.cons bU (.cons bU (.cons bU .nil)))) fun _=>bU)) (fun _ _=>?_)
  refine el H fun tm hai H=>cl Q (cL 91) Q (dK.c hai)<|go 1<|ei Q T Q Q<|ei Q T Q Q<|al Q T ot nofun fun be=>sy 0 ?_
  refine go 1<|rg 2 2<|gl 1 [0]<|sy 2 ?_
  refine .fin ?_
  have H:=H.out
  refine ns 5 [0,1,2,3,4] 2 ?_
  exact jn ((pg.1,pj.1,pg.2.1,pj.2.1,false,tm.1.aa,tm.1.fL,pg.2.2),vb) H
 have H:=H.ct cj
 refine go 3<|cf H ?_ ?_ <;> intro H
 ·
  refine WP.skip<|wr 9 192<|gl 2 [1,0]<|Dv.gh (nS (E':=[(0,vS a0),(1,sl dw.K a1),(4,eP ba),(5,eP bc),(6,vI xc),(7,eP bd),(95,vB (decide (0<xc))),(129,agg [vS xd,sl Event.K xe]),(130,agg [vS ta,vS a0,sl aH pj.2.2,vS eE,vS tc,vI te])]) (l':=[aI bd 110 [vS ta,vS a0,sl aH pj.2.2,vS eE,vS tc,vI te],aI bc 113 [vS xd,sl Event.K xe],aI ba 113 [vS eE,eN],own dj vb.1 pg.2.2]++F) 4 Q (ar Q az (ar Q az (ar Q az (ar Q az (ar Q az (ar Q az (ar Q az (ar Q az (ar Q (sf (.cons az (.cons az (.cons j4 (.cons az (.cons az (.cons az .nil))))))) jl))))))))) (gC (.cons (o3 (.cons az (.cons az (.cons j4 (.cons az (.cons az (.cons az .nil))))))) (.cons bU (.cons bU (.cons bU .nil)))) fun _=>bU)) (fun _ _=>?_)
  refine el H fun tn haj H=>cl Q (cL 91) Q (dK.c haj)<|go 1<|ei Q T Q Q<|ei Q T Q Q<|al Q T ot nofun fun bg=>sy 0 ?_
  refine go 1<|rg 2 2<|gl 1 [0]<|sy 2 ?_
  refine .fin ?_
  have H:=H.out
  refine ns 5 [0,1,2,3,4] 2 ?_
  exact jn ((pg.1,pj.1,pg.2.1,pj.2.1,decide (0<xc),tn.1.aa,tn.1.fL,pg.2.2),vb) H
 refine wr 9 0<|go 2<|gr H fun gv H=>Dv.iY Q T Q Q KZ yI zu gv.1 gv.2<|fr Q T Q Ie Q<|mj Q T Q IC Q<|go 2<|el H fun tp hak H=>cl Q (cL 10) Q (bp.c hak)<|go 1<|wr 21 0<|gp 4 ?_
 cases ck:decide (tp<xc)
 ·
  have H:=H.cf ck
  refine go 17<|WP.cond Q nofun (fun _=>?_)
  refine WP.skip<|wr 9 192<|gl 2 [1,0]<|Dv.gh (nS (E':=[(0,vS a0),(1,sl dw.K a1),(4,eP ba),(5,eP bc),(6,vI xc),(7,eP bd),(11,vI tp),(95,vB (decide (0<xc))),(124,vB false),(129,agg [vS xd,sl Event.K xe]),(130,agg [vS ta,vS a0,sl aH pj.2.2,vS eE,vS tc,vI te])]) (l':=[aI bd 110 [vS ta,vS a0,sl aH pj.2.2,vS eE,vS tc,vI te],aI bc 113 [vS xd,sl Event.K xe],aI ba 113 [vS eE,eN],own dj vb.1 pg.2.2]++F) 4 Q (ar Q az (ar Q az (ar Q az (ar Q az (ar Q az (ar Q az (ar Q az (ar Q az (ar Q az (ar Q az (ar Q (sf (.cons az (.cons az (.cons j4 (.cons az (.cons az (.cons az .nil))))))) jl))))))))))) (gC (.cons (o3 (.cons az (.cons az (.cons j4 (.cons az (.cons az (.cons az .nil))))))) (.cons bU (.cons bU (.cons bU .nil)))) fun _=>bU)) (fun _ _=>?_)
  refine el H fun tq ham H=>cl Q (cL 91) Q (dK.c ham)<|go 1<|ei Q T Q Q<|ei Q T Q Q<|al Q T ot nofun fun bh=>sy 0 ?_
  refine go 1<|rg 2 2<|gl 1 [0]<|sy 2 ?_
  refine .fin ?_
  have H:=H.out
  refine ns 5 [0,1,2,3,4] 2 ?_
  exact jn ((pg.1,pj.1,pg.2.1,pj.2.1,decide (0<xc),tq.1.aa,tq.1.fL,pg.2.2),vb) H
 have H:=H.ct ck
 refine gl 3 [1]<|gr H fun gw H=>Dv.iY Q (gg Q) Q Q rI mJ oU gw.1 gw.2<|fr Q (gg Q) Q BZ Q<|mj Q (gg Q) Q IC Q<|gp 3 ?_
 cases cn:(((Event.K.at xe tp).bR)==0)
 ·
  have H:=H.cf cn
  refine go 8<|WP.cond Q nofun (fun _=>?_)
  refine WP.skip<|wr 9 192<|gl 2 [1,0]<|Dv.gh (nS (E':=[(0,vS a0),(1,sl dw.K a1),(4,eP ba),(5,eP bc),(6,vI xc),(7,eP bd),(11,vI tp),(95,vB (decide (0<xc))),(124,vB false),(129,agg [vS xd,sl Event.K xe]),(130,agg [vS ta,vS a0,sl aH pj.2.2,vS eE,vS tc,vI te])]) (l':=[aI bd 110 [vS ta,vS a0,sl aH pj.2.2,vS eE,vS tc,vI te],aI bc 113 [vS xd,sl Event.K xe],aI ba 113 [vS eE,eN],own dj vb.1 pg.2.2]++F) 4 Q (ar Q az (ar Q az (ar Q az (ar Q az (ar Q az (ar Q az (ar Q az (ar Q az (ar Q az (ar Q az (ar Q (sf (.cons az (.cons az (.cons j4 (.cons az (.cons az (.cons az .nil))))))) jl))))))))))) (gC (.cons (o3 (.cons az (.cons az (.cons j4 (.cons az (.cons az (.cons az .nil))))))) (.cons bU (.cons bU (.cons bU .nil)))) fun _=>bU)) (fun _ _=>?_)
  refine el H fun tu han H=>cl Q (cL 91) Q (dK.c han)<|go 1<|ei Q T Q Q<|ei Q T Q Q<|al Q T ot nofun fun bi=>sy 0 ?_
  refine go 1<|rg 2 2<|gl 1 [0]<|sy 2 ?_
  refine .fin ?_
  have H:=H.out
  refine ns 5 [0,1,2,3,4] 2 ?_
  exact jn ((pg.1,pj.1,pg.2.1,pj.2.1,decide (0<xc),tu.1.aa,tu.1.fL,pg.2.2),vb) H
 have H:=H.ct cn
 refine gl 3 [1]<|gr H fun gy H=>Dv.iY Q (gg Q) Q Q rI mJ oU gy.1 gy.2<|fr Q (gg Q) Q yS Q<|mj Q (gg Q) Q qt Q<|go 2<|cf H ?_ ?_ <;> intro H
 ·
  refine WP.skip<|wr 9 192<|gl 2 [1,0]<|Dv.gh (nS (E':=[(0,vS a0),(1,sl dw.K a1),(4,eP ba),(5,eP bc),(6,vI xc),(7,eP bd),(11,vI tp),(95,vB (decide (0<xc))),(124,vB (decide (((Event.K.at xe tp).ae)=eE))),(129,agg [vS xd,sl Event.K xe]),(130,agg [vS ta,vS a0,sl aH pj.2.2,vS eE,vS tc,vI te])]) (l':=[aI bd 110 [vS ta,vS a0,sl aH pj.2.2,vS eE,vS tc,vI te],aI bc 113 [vS xd,sl Event.K xe],aI ba 113 [vS eE,eN],own dj vb.1 pg.2.2]++F) 4 Q (ar Q az (ar Q az (ar Q az (ar Q az (ar Q az (ar Q az (ar Q az (ar Q az (ar Q az (ar Q az (ar Q (sf (.cons az (.cons az (.cons j4 (.cons az (.cons az (.cons az .nil))))))) jl))))))))))) (gC (.cons (o3 (.cons az (.cons az (.cons j4 (.cons az (.cons az (.cons az .nil))))))) (.cons bU (.cons bU (.cons bU .nil)))) fun _=>bU)) (fun _ _=>?_)
  refine el H fun tw hao H=>cl Q (cL 91) Q (dK.c hao)<|go 1<|ei Q T Q Q<|ei Q T Q Q<|al Q T ot nofun fun bj=>sy 0 ?_
  refine go 1<|rg 2 2<|gl 1 [0]<|sy 2 ?_
  refine .fin ?_
  have H:=H.out
  refine ns 5 [0,1,2,3,4] 2 ?_
  exact jn ((pg.1,pj.1,pg.2.1,pj.2.1,decide (0<xc),tw.1.aa,tw.1.fL,pg.2.2),vb) H
 refine rg 4 8<|go 1<|el H fun tx hap H=>cl Q (cL 50) Q (dq.c hap)<|go 1<|sy 0 ?_
 refine .fin<|wr 9 192<|gl 2 [1,0]<|Dv.gh (nS (E':=[(0,vS a0),(1,sl dw.K a1),(4,eP ba),(5,eP bc),(6,vI xc),(7,eP bd),(11,vI tp),(95,vB (decide (0<xc))),(124,vB (decide (((Event.K.at xe tp).ae)=eE))),(129,agg [vS xd,sl Event.K xe]),(130,agg [vS ta,vS a0,sl aH pj.2.2,vS tx,vS tc,vI te])]) (l':=[aI bd 110 [vS ta,vS a0,sl aH pj.2.2,vS tx,vS tc,vI te],aI bc 113 [vS xd,sl Event.K xe],aI ba 113 [vS eE,eN],own dj vb.1 pg.2.2]++F) 4 Q (ar Q az (ar Q az (ar Q az (ar Q az (ar Q az (ar Q az (ar Q az (ar Q az (ar Q az (ar Q az (ar Q (sf (.cons az (.cons az (.cons j4 (.cons az (.cons az (.cons az .nil))))))) jl))))))))))) (gC (.cons (o3 (.cons az (.cons az (.cons j4 (.cons az (.cons az (.cons az .nil))))))) (.cons bU (.cons bU (.cons bU .nil)))) fun _=>bU)) (fun _ _=>?_)
 refine el H fun tz haq H=>cl Q (cL 91) Q (dK.c haq)<|go 1<|ei Q T Q Q<|ei Q T Q Q<|al Q T ot nofun fun bl=>sy 0 ?_
 refine go 1<|rg 2 2<|gl 1 [0]<|sy 2 ?_
 refine .fin ?_
 have H:=H.out
 refine ns 5 [0,1,2,3,4] 2 ?_
 exact jn ((pg.1,pj.1,pg.2.1,pj.2.1,decide (0<xc),tz.1.aa,tz.1.fL,pg.2.2),vb) H
theorem ov.c (h:ov.f k a0 a1=some r):Tr prog 9 [sl dw.K a0,sl dw.K a1] [] (γ:=OV) (fun _=>True) (fun g=>eq g.1) (fun g=>[own Event.K g.1 r]):=by
 refine tf func9 h fun R0 F H=>?_
 refine so<|so<|wr 7 32<|go 1<|el H fun ta haa H=>cl Q (cL 18) Q (fb.c haa)<|go 1<|el H fun tc hac H=>cl Q (cL 37) Q (bJ.c hac)<|Dv.fld Q T Q lZ Q rI Q Q<|vg (eD Event.K none) fun _ _=>?_
 refine gr H fun ga H=>ap Event.K 0 tc.fL bS rI (.inr ⟨_,rI⟩) vL ga nofun fun va=>?_
 refine go 1<|wr 7 32<|go 1<|el H fun te had H=>cl Q (cL 18) Q (fb.c had)<|go 1<|el H fun tg hae H=>cl Q (cL 37) Q (bJ.c hae)<|Dv.fld Q T Q lZ Q rI Q Q<|gr H fun gb H=>ap Event.K 0 tg.fL bS rI (.inr ⟨_,rI⟩) vL gb nofun fun vb=>?_
 refine gq 1 ?_
 cases H.out; exact et vb 1 [0] 0
theorem fX.c (h:fX.f k a0 a1=some r):Pt prog 23 [sl MK.K a0,agg (bx.enc a1)] (vI r):=by
 refine pf func23 h fun R0 F H=>?_
 refine wr 2 1<|Dv.box Q T Q cA nofun fun ba=>go 1<|sr H id [] (fun _=>[]) (fun _=>[]) (fun pa H=>?_) (fun H=>?_)
 ·
  refine sp ?_
  cases H.out; exact ek 1
 refine so<|WP.block<|ws 1 [0] 0 ?_
 refine lq (fun j_ (pc:Int)=>fX.l0 k a0 a1 j_ pc) 0 H [0,3] (fun pc=>[(5,vI pc)]) (fun _=>[]) ?_
 rintro j_ xc H
 rcases j_ with _ | ja
 ·
  exact (aV.no H).elim
 try dsimp only at H
 rw [fX.l0] at H
 refine WP.seq<|wr 4 0<|go 2<|Dv.fg Q T Q sS<|go 1<|cf H ?_ ?_ <;> intro H
 ·
  refine WP.exit ?_
  have H:=H.out
  exact jn (xc,decide (xc<(a0.length:Int))) H
 refine WP.skip<|WP.seq<|WP.block<|wd mX 7 0<|go 2<|gr H fun ga H=>Dv.iY Q T Q Q sS AH FJ ga.1 ga.2<|fr Q T Q Fa Q<|kM Q T Q sg79 Q<|gl 1 [0]<|Dv.eqs [.string (((MK.K.at a0 xc).fK).aa),.string (((MK.K.at a0 xc).fK).ai),.string (((MK.K.at a0 xc).fK).ae),.bool (((MK.K.at a0 xc).fK).ao)] [.string a1.aa,.string a1.ai,.string a1.ae,.bool a1.ao] Q T Q Q Q Q eg79 (fun _=>j5 2 dc (fun _=>IT ((MK.K.at a0 xc).fK) a1))<|.fin<|cf H ?_ ?_ <;> intro H
 ·
  exact WP.skip<|rg 3 0<|go 3<|bk ja (aw (xc+1)) H
 refine sp ?_
 have H:=H.fH
 cases H.out; exact ek 1
theorem kQ.c (h:kQ.f a0 a1=some r):Pt prog 24 [agg (Pos.enc a0),agg (Pos.enc a1)] (vB r):=by
 refine pf func24 h fun R0 F H=>?_
 refine wr 3 3<|Dv.box Q T Q cA nofun fun ba=>Dv.box Q T Q cA nofun fun bc=>go 1<|wr 20 0<|kK 6 [1,0] ?_
 cases cc:decide (a0.bq<a1.bq)
 rotate_left
 ·
  have H:=H.ct cc
  refine gq 14 ?_
  cases H.out; exact ek 2
 have H:=H.cf cc
 refine kK 6 [1,0] ?_
 cases cg:(a0.bq==a1.bq)
 ·
  have H:=H.cf cg
  refine gq 8 ?_
  cases H.out; exact ek 2
 have H:=H.ct cg
 refine GA 8 [1,0] ?_
 cases H.out; exact ek 2
theorem lU.c (h:lU.f a0 a1=some r):Pt prog 75 [agg (bx.enc a0),agg (bx.enc a1)] (vB r):=by
 refine pf func75 h fun R0 F H=>?_
 refine wr 3 3<|Dv.box Q T Q cA nofun fun ba=>Dv.box Q T Q cA nofun fun bc=>go 1<|WP.seq<|r9 [1,0]<|ce H ?_ ?_ <;> intro H
 ·
  refine spj [1,0] ?_
  cases H.out; exact ek 2
 refine WP.skip<|WP.seq<|r9 [1,0]<|ce H ?_ ?_ <;> intro H
 ·
  refine spj [1,0] ?_
  cases H.out; exact ek 2
 refine WP.skip<|WP.seq<|r9 [1,0]<|ce H ?_ ?_ <;> intro H
 ·
  refine spj [1,0] ?_
  cases H.out; exact ek 2
 refine WP.skip<|wr 8 0<|kK 4 [1] ?_
 cases cc:!a0.ao
 ·
  have H:=H.cf cc
  refine gq 4 ?_
  cases H.out; exact ek 2
 have H:=H.ct cc
 refine GA 4 [0] ?_
 cases H.out; exact ek 2
theorem ji.c (h:ji.f k a0 a1 a2=some r):Pt prog 25 [sl MK.K a0,agg (bx.enc a1),agg (Pos.enc a2)] (kN [sl MK.K r.1,vB r.2]):=by
 refine pf func25 h fun R0 F H=>?_
 refine wr 4 3<|Dv.box Q T Q cA nofun fun ba=>Dv.box Q T Q cA nofun fun bc=>go 2<|wr 4 0<|gl 2 [1]<|el H fun ta haa H=>cl Q (cL 23) Q (fX.c haa)<|go 1<|so<|WP.seq<|so<|ce H ?_ ?_ <;> intro H
 ·
  refine wd mX 8 0<|go 2<|gr H fun ga H=>Dv.iY Q T Q Q sS AH FJ ga.1 ga.2<|fr Q T Q Fw Q<|kM Q T Q sg81 Q<|gl 1 [0]<|el H fun tc hac H=>cl Q (cL 24) Q (kQ.c hac)<|go 1<|WP.seq<|so<|ce H ?_ ?_ <;> intro H
  ·
   refine sp ?_
   cases H.out; exact ek 2
  refine WP.skip<|wr 4 4<|go 2<|vg (eD MK.K none) fun _ _=>?_
  refine gr H fun gb H=>ap MK.K 0 a0 bS sS (.inr ⟨_,sS⟩) zT gb nofun fun va=>?_
  refine go 1<|wr 6 32<|gl 3 [1]<|gr H fun gc H=>?_
  have had:ta.toNat<(([]:List MK)++a0).length:=bE gc
  refine Dv.kA Q T Q (ab 0 Q) Q sS AH FJ gc.1 gc.2<|fw Q T Q Fw<|Dv.HX (j:=ta.toNat) (f:=4) (jj:=0) (⟨((([]:List MK)++a0).getD ta.toNat default).fK,a2⟩:MK) Q T Q Q (aZ (Pos.K.one _)) tI yh Q Q had (Nat.le_of_ble_eq_true Q) Q nofun<|.fin<|so<|fz 0 [6,7] [] ?_
  cases H.out; exact ek 2
 refine WP.skip<|so<|sq H id [0,4,5,9] (fun pa=>[(11,vI pa.1)]) (fun _=>[]) (fun pa H=>?_) (fun H=>?_)
 rotate_left
 ·
  refine WP.block<|ws 2 [0,1] 0 ?_
  refine lq (fun j_ (pc:Int)=>ji.l0 k a0 a1 j_ pc) 0 H [0,4,5,9] (fun pc=>[(11,vI pc)]) (fun _=>[]) ?_
  rintro j_ xc H
  rcases j_ with _ | ja
  ·
   exact (aV.no H).elim
  try dsimp only at H
  rw [ji.l0] at H
  refine WP.seq<|wd mX 13 0<|go 2<|Dv.fg Q T Q sS<|gp 2 ?_
  cases cc:decide (xc<(a0.length:Int))
  ·
   have H:=H.cf cc
   refine go 8<|WP.cond Q nofun (fun _=>?_)
   refine WP.exit ?_
   have H:=H.out
   exact jn (xc,false) H
  have H:=H.ct cc
  refine go 2<|gr H fun gi H=>Dv.iY Q (gg Q) Q Q sS AH FJ gi.1 gi.2<|fr Q (gg Q) Q Fa Q<|kM Q (gg Q) Q sg79 Q<|gl 1 [1]<|el H fun te hae H=>Dv.call Q (gg Q) (cL 75) Q (lU.c hae)<|go 1<|cf H ?_ ?_ <;> intro H
  ·
   refine WP.exit ?_
   have H:=H.out
   exact jn (xc,te) H
  exact WP.skip<|WP.block<|rg 3 0<|go 3<|bk ja (aw (xc+1)) H
 refine wr 6 16<|go 3<|gr H fun gj H=>Dv.sls Q T Q sS AH FJ dC (eV Q gj.1) gj.2.1 gj.2.2<|vg (eD MK.K none) fun _ _=>?_
 refine gr H fun gk H=>ap MK.K 0 ((a0.take pa.1.toNat).drop 0) bS sS (.inr ⟨_,sS⟩) zT gk nofun fun vb=>?_
 refine go 1<|wr 7 32<|gl 3 [2,1]<|Dv.lp (qs:=[vS a1.aa,vS a1.ai,vS a1.ae,vB a1.ao,vI a2.bq,vS a2.cJ]) (css:=[bx.enc a1,Pos.enc a2]) Q T AH pl83 z83 Q ⟨(aZ (bx.K.one _)),⟨(aZ (Pos.K.one _)),T⟩⟩ Q Q<|Dv.lit MK.K ([(⟨a1,a2⟩:MK)]:List MK) (css:=[[vS a1.aa,vS a1.ai,vS a1.ae,vB a1.ao,vI a2.bq,vS a2.cJ]]) Q T sS AH FJ z83 Q dc dc Q ⟨(aZ (aj (ah Q) (aj (ah Q) (aj (ah Q) (aj (ah Q) (aj (ah Q) (aj (ah Q) bX))))))),T⟩ Q Q Q<|gr H fun gm H=>ap MK.K 0 ([(⟨a1,a2⟩:MK)]:List MK) bS sS (.inr ⟨_,sS⟩) zT gm nofun fun vd=>?_
 refine go 1<|wr 7 16<|go 3<|gr H fun gn H=>Dv.sls Q T Q sS AH FJ (eV Q gn.1) dC gn.2.1 gn.2.2<|gr H fun gu H=>ap MK.K 0 ((a0.take a0.length).drop pa.1.toNat) bS sS (.inr ⟨_,sS⟩) zT gu nofun fun ve=>?_
 refine go 2<|fz 0 [6,7] [] ?_
 cases H.out; exact ek 2
theorem pA.c (h:pA.f a0=some r):Pt prog 40 [agg (ak.enc a0)] (agg (bx.enc r)):=by
 refine pf func40 h fun R0 F H=>?_
 refine wr 2 3<|Dv.box Q T Q cA nofun fun ba=>al Q T zc79 nofun fun bc=>.fin<|wr 10 512<|gl 8 [1,1,1,1]<|Dv.lp (qs:=[vS a0.aa,vS a0.ai,vS a0.ae,vB a0.ao]) (css:=[[vS a0.aa],[vS a0.ai],[vS a0.ae],[vB a0.ao]]) Q T KN pl79 z79 Q ⟨(cells_one (ah Q)),⟨(cells_one (ah Q)),⟨(cells_one (ah Q)),⟨(cells_one (ah Q)),T⟩⟩⟩⟩ Q Q<|sy 0 ?_
 refine .fin ?_
 cases H.out; exact r2 i2 Q (.cons (au Q KN Q Jj (ab 0 Q) Q) .nil)
theorem l7.c (h:l7.f k a0=some r):Pt prog 151 [vS a0] (vB r):=by
 refine pf func151 h fun R0 F H=>?_
 refine so<|wr 3 0<|go 1<|el H fun ta haa H=>cl Q (cL 150) Q (bV.c haa)<|go 1<|wr 10 0<|gp 3 ?_
 cases cc:decide (a0=eE)
 rotate_left
 ·
  have H:=H.ct cc
  refine gq 7 ?_
  cases H.out; exact ek 0
 have H:=H.cf cc
 refine gp 4 ?_
 cases cg:decide (a0=(⟨#[109,97,105,110]⟩:BA))
 rotate_left
 ·
  have H:=H.ct cg
  refine gq 3 ?_
  cases H.out; exact ek 0
 have H:=H.cf cg
 refine gq 3 ?_
 cases H.out; exact ek 0
theorem fQ.c (h:fQ.f k a0=some r):Pt prog 92 [agg (ak.enc a0)] (vB r):=by
 refine pf func92 h fun R0 F H=>?_
 refine wr 2 1<|Dv.box Q T Q cA nofun fun ba=>go 1<|wr 4 0<|gl 2 [0]<|el H fun ta haa H=>cl Q (cL 149) Q (ic.c haa)<|go 1<|wr 4 0<|gl 2 [0]<|el H fun tc hac H=>cl Q (cL 149) Q (ic.c hac)<|go 1<|wr 4 0<|gl 2 [0]<|el H fun te had H=>cl Q (cL 150) Q (bV.c had)<|go 1<|wr 4 0<|gl 2 [0]<|el H fun tg hae H=>cl Q (cL 151) Q (l7.c hae)<|go 1<|WP.seq<|wr 22 0<|gp 3 ?_
 cases cc:!ta
 rotate_left
 ·
  have H:=H.ct cc
  refine go 19<|WP.cond Q (fun _=>?_) nofun
  refine sp ?_
  cases H.out; exact ek 1
 have H:=H.cf cc
 refine kK 5 [0] ?_
 cases cg:decide (a0.aS<0)
 rotate_left
 ·
  have H:=H.ct cg
  refine go 14<|WP.cond Q (fun _=>?_) nofun
  refine sp ?_
  cases H.out; exact ek 1
 have H:=H.cf cg
 refine kK 5 [0] ?_
 cases ci:decide (1099511627776<a0.aS)
 rotate_left
 ·
  have H:=H.ct ci
  refine go 9<|WP.cond Q (fun _=>?_) nofun
  refine sp ?_
  cases H.out; exact ek 1
 have H:=H.cf ci
 refine kK 5 [0] ?_
 cases cj:decide (a0.aY<0)
 rotate_left
 ·
  have H:=H.ct cj
  refine go 4<|WP.cond Q (fun _=>?_) nofun
  refine sp ?_
  cases H.out; exact ek 1
 have H:=H.cf cj
 refine gl 4 [0]<|ce H ?_ ?_ <;> intro H
 ·
  refine sp ?_
  cases H.out; exact ek 1
 refine WP.skip<|WP.seq<|r9 [0]<|WP.block<|so<|ce H ?_ ?_ <;> intro H
 ·
  refine wr 23 0<|gp 2 ?_
  cases ck:tc
  ·
   have H:=H.cf ck
   refine gq 21 ?_
   cases H.out; exact ek 1
  have H:=H.ct ck
  refine gp 3 ?_
  cases cn:te
  ·
   have H:=H.cf cn
   refine gq 18 ?_
   cases H.out; exact ek 1
  have H:=H.ct cn
  refine gp 3 ?_
  cases co:tg
  ·
   have H:=H.cf co
   refine gq 15 ?_
   cases H.out; exact ek 1
  have H:=H.ct co
  refine kK 5 [0] ?_
  cases cp:!a0.jS
  ·
   have H:=H.cf cp
   refine gq 10 ?_
   cases H.out; exact ek 1
  have H:=H.ct cp
  refine kK 5 [0] ?_
  cases cq:(a0.b8==0)
  ·
   have H:=H.cf cq
   refine gq 5 ?_
   cases H.out; exact ek 1
  have H:=H.ct cq
  refine GA 5 [0] ?_
  cases H.out; exact ek 1
 refine so<|cf H ?_ ?_ <;> intro H
 ·
  refine so<|cf H ?_ ?_ <;> intro H
  ·
   refine WP.skip<|sp ?_
   cases H.out; exact ek 1
  refine wr 39 0<|kK 4 [0] ?_
  cases cr:decide (a0.aa=eE)
  ·
   have H:=H.cf cr
   refine gq 35 ?_
   cases H.out; exact ek 1
  have H:=H.ct cr
  refine kK 5 [0] ?_
  cases cu:decide (a0.bC=eE)
  ·
   have H:=H.cf cu
   refine gq 30 ?_
   cases H.out; exact ek 1
  have H:=H.ct cu
  refine kK 5 [0] ?_
  cases cw:decide (a0.ae=eE)
  ·
   have H:=H.cf cw
   refine gq 25 ?_
   cases H.out; exact ek 1
  have H:=H.ct cw
  refine kK 5 [0] ?_
  cases cy:!a0.jS
  ·
   have H:=H.cf cy
   refine gq 20 ?_
   cases H.out; exact ek 1
  have H:=H.ct cy
  refine kK 5 [0] ?_
  cases cz:(a0.b8==0)
  ·
   have H:=H.cf cz
   refine gq 15 ?_
   cases H.out; exact ek 1
  have H:=H.ct cz
  refine kK 5 [0] ?_
  cases caa:!a0.ao
  ·
   have H:=H.cf caa
   refine gq 10 ?_
   cases H.out; exact ek 1
  have H:=H.ct caa
  refine kK 5 [0] ?_
  cases cab:decide (0≤a0.aM)
  ·
   have H:=H.cf cab
   refine gq 5 ?_
   cases H.out; exact ek 1
  have H:=H.ct cab
  refine GA 5 [0] ?_
  cases H.out; exact ek 1
 refine wr 23 0<|kK 3 [0] ?_
 cases cac:a0.jS
 ·
  have H:=H.cf cac
  refine kK 14 [0] ?_
  cases cad:!a0.jS
  ·
   have H:=H.cf cad
   refine go 6<|wr 25 0<|gp 2 ?_
   cases cae:tc
   ·
    have H:=H.cf cae
    refine gq 23 ?_
    cases H.out; exact ek 1
   have H:=H.ct cae
   refine gq 23 ?_
   cases H.out; exact ek 1
  have H:=H.ct cad
  refine gl 6 [0]<|wr 25 0<|gp 2 ?_
  cases caf:tc
  ·
   have H:=H.cf caf
   refine gq 23 ?_
   cases H.out; exact ek 1
  have H:=H.ct caf
  refine gp 3 ?_
  cases cag:(a0.b8==0)
  ·
   have H:=H.cf cag
   refine gq 20 ?_
   cases H.out; exact ek 1
  have H:=H.ct cag
  refine kK 5 [0] ?_
  cases cah:decide (a0.bC=eE)
  ·
   have H:=H.cf cah
   refine gq 15 ?_
   cases H.out; exact ek 1
  have H:=H.ct cah
  refine kK 5 [0] ?_
  cases cai:decide (a0.ae=eE)
  ·
   have H:=H.cf cai
   refine gq 10 ?_
   cases H.out; exact ek 1
  have H:=H.ct cai
  refine kK 5 [0] ?_
  cases caj:(a0.aM==0)
  ·
   have H:=H.cf caj
   refine gq 5 ?_
   cases H.out; exact ek 1
  have H:=H.ct caj
  refine GA 5 [0] ?_
  cases H.out; exact ek 1
 have H:=H.ct cac
 refine kK 5 [0] ?_
 cases cak:decide (1≤a0.b8)
 ·
  have H:=H.cf cak
  refine kK 9 [0] ?_
  cases cal:!a0.jS
  ·
   have H:=H.cf cal
   refine go 6<|wr 25 0<|gp 2 ?_
   cases cam:tc
   ·
    have H:=H.cf cam
    refine gq 23 ?_
    cases H.out; exact ek 1
   have H:=H.ct cam
   refine gq 23 ?_
   cases H.out; exact ek 1
  have H:=H.ct cal
  refine gl 6 [0]<|wr 25 0<|gp 2 ?_
  cases can:tc
  ·
   have H:=H.cf can
   refine gq 23 ?_
   cases H.out; exact ek 1
  have H:=H.ct can
  refine gp 3 ?_
  cases cao:(a0.b8==0)
  ·
   have H:=H.cf cao
   refine gq 20 ?_
   cases H.out; exact ek 1
  have H:=H.ct cao
  refine kK 5 [0] ?_
  cases caq:decide (a0.bC=eE)
  ·
   have H:=H.cf caq
   refine gq 15 ?_
   cases H.out; exact ek 1
  have H:=H.ct caq
  refine kK 5 [0] ?_
  cases car:decide (a0.ae=eE)
  ·
   have H:=H.cf car
   refine gq 10 ?_
   cases H.out; exact ek 1
  have H:=H.ct car
  refine kK 5 [0] ?_
  cases cas:(a0.aM==0)
  ·
   have H:=H.cf cas
   refine gq 5 ?_
   cases H.out; exact ek 1
  have H:=H.ct cas
  refine GA 5 [0] ?_
  cases H.out; exact ek 1
 have H:=H.ct cak
 refine kK 5 [0] ?_
 cases cat:decide (a0.b8≤60)
 rotate_left
 ·
  have H:=H.ct cat
  refine go 10<|wr 25 0<|gp 2 ?_
  cases cau:tc
  ·
   have H:=H.cf cau
   refine gq 23 ?_
   cases H.out; exact ek 1
  have H:=H.ct cau
  refine kK 8 [0] ?_
  cases cav:decide (a0.bC=eE)
  ·
   have H:=H.cf cav
   refine gq 15 ?_
   cases H.out; exact ek 1
  have H:=H.ct cav
  refine kK 5 [0] ?_
  cases caw:decide (a0.ae=eE)
  ·
   have H:=H.cf caw
   refine gq 10 ?_
   cases H.out; exact ek 1
  have H:=H.ct caw
  refine kK 5 [0] ?_
  cases cax:(a0.aM==0)
  ·
   have H:=H.cf cax
   refine gq 5 ?_
   cases H.out; exact ek 1
  have H:=H.ct cax
  refine GA 5 [0] ?_
  cases H.out; exact ek 1
 have H:=H.cf cat
 refine kK 4 [0] ?_
 cases cay:!a0.jS
 ·
  have H:=H.cf cay
  refine go 6<|wr 25 0<|gp 2 ?_
  cases caz:tc
  ·
   have H:=H.cf caz
   refine gq 23 ?_
   cases H.out; exact ek 1
  have H:=H.ct caz
  refine gq 23 ?_
  cases H.out; exact ek 1
 have H:=H.ct cay
 refine gl 6 [0]<|wr 25 0<|gp 2 ?_
 cases cba:tc
 ·
  have H:=H.cf cba
  refine gq 23 ?_
  cases H.out; exact ek 1
 have H:=H.ct cba
 refine gp 3 ?_
 cases cbb:(a0.b8==0)
 ·
  have H:=H.cf cbb
  refine gq 20 ?_
  cases H.out; exact ek 1
 have H:=H.ct cbb
 refine kK 5 [0] ?_
 cases cbc:decide (a0.bC=eE)
 ·
  have H:=H.cf cbc
  refine gq 15 ?_
  cases H.out; exact ek 1
 have H:=H.ct cbc
 refine kK 5 [0] ?_
 cases cbd:decide (a0.ae=eE)
 ·
  have H:=H.cf cbd
  refine gq 10 ?_
  cases H.out; exact ek 1
 have H:=H.ct cbd
 refine kK 5 [0] ?_
 cases cbe:(a0.aM==0)
 ·
  have H:=H.cf cbe
  refine gq 5 ?_
  cases H.out; exact ek 1
 have H:=H.ct cbe
 refine GA 5 [0] ?_
 cases H.out; exact ek 1
theorem ow.c (h:ow.f k a0 a1 a2 a3=some r):Pt prog 93 [agg (bF.enc a0),vS a1,vS a2,vS a3] (vI r):=by
 refine pf func93 h fun R0 F H=>?_
 refine wr 2 1<|Dv.box Q T Q cA nofun fun ba=>go 1<|wr 5 24<|gl 2 [0]<|el H fun ta haa H=>cl Q (cL 77) Q (iJ.c haa)<|al Q T ot nofun fun bc=>sy 0 ?_
 refine .fin<|wr 4 0<|gl 2 [0]<|el H fun tc hac H=>cl Q (cL 148) Q (ew.c hac)<|go 1<|WP.seq<|so<|ce H ?_ ?_ <;> intro H
 ·
  refine sp ?_
  cases H.out; exact ek 2
 refine WP.skip<|wr 7 0<|gl 3 [0]<|gr H fun ga H=>Dv.iY Q T Q Q rI mJ oU ga.1 ga.2<|fr Q T Q yS Q<|mj Q T Q qt Q<|go 1<|WP.seq<|wr 24 0<|gp 3 ?_
 cases cc:decide (a3=eE)
 rotate_left
 ·
  have H:=H.ct cc
  refine go 21<|WP.cond Q (fun _=>?_) nofun
  refine sp ?_
  cases H.out; exact ek 2
 have H:=H.cf cc
 refine gp 5 ?_
 cases cg:decide (a3=a2)
 rotate_left
 ·
  have H:=H.ct cg
  refine go 16<|WP.cond Q (fun _=>?_) nofun
  refine sp ?_
  cases H.out; exact ek 2
 have H:=H.cf cg
 refine gp 3 ?_
 cases ci:decide (a3=(⟨#[109,97,105,110]⟩:BA))
 ·
  have H:=H.cf ci
  refine gp 8 ?_
  cases cj:!decide (((Event.K.at ta.fL tc).ae)=eE)
  ·
   have H:=H.cf cj
   refine go 5<|WP.cond Q nofun (fun _=>?_)
   refine WP.skip<|sp ?_
   cases H.out; exact ek 2
  have H:=H.ct cj
  refine go 5<|ce H ?_ ?_ <;> intro H
  ·
   refine sp ?_
   cases H.out; exact ek 2
  refine WP.skip<|sp ?_
  cases H.out; exact ek 2
 have H:=H.ct ci
 refine gp 5 ?_
 cases ck:decide (((Event.K.at ta.fL tc).ae)=eE)
 rotate_left
 ·
  have H:=H.ct ck
  refine go 8<|WP.cond Q (fun _=>?_) nofun
  refine sp ?_
  cases H.out; exact ek 2
 have H:=H.cf ck
 refine gp 3 ?_
 cases cn:!decide (((Event.K.at ta.fL tc).ae)=eE)
 ·
  have H:=H.cf cn
  refine go 5<|WP.cond Q nofun (fun _=>?_)
  refine WP.skip<|sp ?_
  cases H.out; exact ek 2
 have H:=H.ct cn
 refine go 5<|ce H ?_ ?_ <;> intro H
 ·
  refine sp ?_
  cases H.out; exact ek 2
 refine WP.skip<|sp ?_
 cases H.out; exact ek 2
theorem ke.c (h:ke.f k a0 a1=some r):Pt prog 94 [agg (nH.enc a0),agg (ak.enc a1)] (kN [agg (nH.enc r.1),agg (ak.enc r.2.1),vB r.2.2]):=by
 refine pf func94 h fun R0 F H=>?_
 refine wr 5 15<|Dv.box Q T Q cA nofun fun ba=>Dv.box Q T Q cA nofun fun bc=>al Q T I9 nofun fun bd=>al Q T s9 nofun fun be=>go 1<|sr H id [2,3,4,5] (fun _=>[]) (fun _=>[]) (fun pa H=>?_) (fun H=>?_)
 rotate_left
 ·
  refine so<|WP.block<|ws 4 [0,1,2,3] 0 ?_
  refine lq (fun j_ (pc:Int)=>ke.l0 k a0 a1 j_ pc) 0 H [2,3,4,5] (fun pc=>[(7,vI pc)]) (fun _=>[]) ?_
  rintro j_ xc H
  rcases j_ with _ | ja
  ·
   exact (aV.no H).elim
  try dsimp only at H
  rw [ke.l0] at H
  refine WP.seq<|wr 5 0<|gl 3 [3]<|Dv.fg Q T Q fI<|go 1<|cf H ?_ ?_ <;> intro H
  ·
   refine WP.exit ?_
   have H:=H.out
   exact jn (xc,decide (xc<(a0.fL.length:Int))) H
  refine WP.skip<|WP.seq<|WP.block<|wd mX 7 0<|gl 3 [3]<|gr H fun ga H=>Dv.iY Q T Q Q fI iq iT ga.1 ga.2<|kM Q T Q wU Q<|gl 1 [2]<|Dv.eqs [.int .i64 ((ak.K.at a0.fL xc).aG),.string ((ak.K.at a0.fL xc).aa),.string ((ak.K.at a0.fL xc).ai),.string ((ak.K.at a0.fL xc).bC),.string ((ak.K.at a0.fL xc).ae),.bool ((ak.K.at a0.fL xc).ao),.bool ((ak.K.at a0.fL xc).jS),.int .i64 ((ak.K.at a0.fL xc).b8),.int .i64 ((ak.K.at a0.fL xc).aM),.int .i64 ((ak.K.at a0.fL xc).aS),.int .i64 ((ak.K.at a0.fL xc).aY)] [.int .i64 a1.aG,.string a1.aa,.string a1.ai,.string a1.bC,.string a1.ae,.bool a1.ao,.bool a1.jS,.int .i64 a1.b8,.int .i64 a1.aM,.int .i64 a1.aS,.int .i64 a1.aY] Q T Q Q Q Q Io (fun _=>j5 2 dc (fun _=>Co (ak.K.at a0.fL xc) a1))<|.fin<|cf H ?_ ?_ <;> intro H
  ·
   exact WP.skip<|rg 3 0<|go 3<|bk ja (aw (xc+1)) H
  refine wr 5 12<|gl 1 [3]<|Dv.lp (qs:=[vI 0,vS eE,vS eE,vS eE,vS eE,vB false,vB false,vI 0,vI 0,vI 0,vI 0]) (css:=[]) Q T iq Ba uZ Q T Q Q<|sy 1 ?_
  refine sy 0 ?_
  refine gq 1 ?_
  have H:=H.fH
  cases H.out; exact r4 i2 Q (.cons (au Q Be Q HT (ab 1 Q) Q) (.cons (au Q iq Q iT (ab 0 Q) Q) (.cons (aE Q) .nil)))
 refine so<|wr 5 8<|gl 3 [3]<|vg (eD ak.K none) fun _ _=>?_
 refine gr H fun gb H=>ap ak.K 0 a0.fL bS fI (.inr ⟨_,fI⟩) nv gb nofun fun va=>?_
 refine go 1<|wr 5 8<|gl 2 [3]<|Dv.lit ak.K ([a1]:List ak) (css:=[ak.enc a1]) Q T fI iq iT uZ Q dc dc Q ⟨(aZ (ak.K.one _)),T⟩ Q Q Q<|gr H fun gc H=>ap ak.K 0 ([a1]:List ak) bS fI (.inr ⟨_,fI⟩) nv gc nofun fun vb=>?_
 refine go 1<|WP.seq<|wr 5 0<|go 1<|Dv.kG Q T Q (ab 0 Q) fI<|gl 3 [4]<|cf H ?_ ?_ <;> intro H
 ·
  refine WP.skip<|wr 10 384<|gl 5 [4,4]<|Dv.lp (qs:=[vI a0.o8,eq vb.1,vI a0.pK]) (css:=[[vI a0.o8],[eq vb.1],[vI a0.pK]]) Q T Be FU H9 Q ⟨(cells_one (ah Q)),⟨(cells_one bK),⟨(cells_one (ah Q)),T⟩⟩⟩ Q Q<|Dv.lp (qs:=[vI 0,vS eE,vS eE,vS eE,vS eE,vB false,vB false,vI 0,vI 0,vI 0,vI 0]) (css:=[]) Q T iq Ba uZ Q T Q Q<|sy 2 ?_
  refine sy 1 ?_
  refine go 1<|fz 0 [4,5,6] [0,1] ?_
  cases H.out; exact r4 i2 Q (.cons (au Q Be Q HT (ab 1 Q) Q) (.cons (au Q iq Q iT (ab 0 Q) Q) (.cons (aE Q) .nil)))
 refine WP.seq<|fz 0 [2,3,4,5,8,37] [] ?_
 refine dg mX 14 6144<|gl 3 [3]<|gr H fun gi H=>Dv.sls Q T Q fI iq iT (eV Q gi.1) dC gi.2.1 gi.2.2<|gl 3 [3]<|Dv.lp (qs:=[vI a0.o8,sl ak.K ((((([]:List ak)++a0.fL)++([a1]:List ak)).take (((([]:List ak)++a0.fL)++([a1]:List ak)).length)).drop ((1:Int).toNat)),vI (aw (a0.pK+1))]) (css:=[[vI a0.o8],[sl ak.K ((((([]:List ak)++a0.fL)++([a1]:List ak)).take (((([]:List ak)++a0.fL)++([a1]:List ak)).length)).drop ((1:Int).toNat))],[vI (aw (a0.pK+1))]]) Q T Be FU H9 Q ⟨(cells_one (ah Q)),⟨(cells_one dM),⟨(cells_one (ah Q)),T⟩⟩⟩ Q Q<|go 1<|gr H fun gj H=>Dv.iY Q T Q Q fI iq iT gj.1 gj.2<|kM Q T Q wU Q<|sx 1 Q T Q Q cA sz118 Q Q Q pD ?_
 refine sv 0 ?_
 refine gq 1 ?_
 cases H.out; exact r4 i2 Q (.cons (au Q Be Q HT (ab 1 Q) Q) (.cons (au Q iq Q iT (ab 0 Q) Q) (.cons (aE Q) .nil)))
end Go.Proofs.YtfknmdelgepbjaaGreatDoor
