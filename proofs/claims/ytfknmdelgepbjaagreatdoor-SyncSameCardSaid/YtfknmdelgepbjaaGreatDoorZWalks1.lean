import Derived.Test.YtfknmdelgepbjaaGreatDoorZTab
import Derived.Test.YtfknmdelgepbjaaGreatDoorZMir
import Derived.Test.YtfknmdelgepbjaaGreatDoorConQ
import Derived.Test.YtfknmdelgepbjaaGreatDoorConA6
import Derived.Test.YtfknmdelgepbjaaGreatDoorConC4
import Derived.Lib.Join
import Derived.Eval
import Derived.Test.YtfknmdelgepbjaaGreatDoorZShelf
set_option linter.all false
set_option autoImplicit true
set_option maxRecDepth 10000
set_option maxHeartbeats 20000000
namespace Go.Proofs.YtfknmdelgepbjaaGreatDoor
open Go Go.Sp Tryz
theorem rL.c (h:rL.f a0=some r):Tr prog 84 [vI a0] [] (γ:=OV) (fun _=>True) (fun g=>lr [eq g.1,vI r.2]) (fun g=>[DV jq.O g r.1]):=by
 refine tf func84 h fun R0 F H=>?_
 refine so<|WP.seq<|wr 6 0<|gp 3 ?_
 cases c1:decide (a0<1)
 rotate_left
 ·
  have H:=H.ct c1
  refine go 3<|WP.cond Q (fun _=>?_) nofun
  refine so<|wg (od (O:=jq.O)) fun _ _=>?_
  cases H.out; exact et ji 1 [0] 0
 have H:=H.cf c1
 refine go 3<|ce H ?_ ?_ <;> intro H
 ·
  refine so<|wg (od (O:=jq.O)) fun _ _=>?_
  cases H.out; exact et ji 1 [0] 0
 refine WP.skip<|wr 5 4<|go 1<|Dv.lI (qs:=[vI a0,eU,vI 0]) (css:=[[vI a0]]) Q T Hh pl247 z247 Q ⟨(cells_one (ah Q)),T⟩ Q Q<|Dv.box Q T Q cA nofun fun b4=>go 2<|wg (eK ak.K none) fun _ _=>?_
 refine wg (jq.shut (p:=(⟨.pointer (some ⟨b4,0,none⟩),Q⟩:OV)) (m:=(⟨a0,([]:List ak),0⟩:jq)) (b4,lM) Q (pm 2 [1,0])) fun _ _=>?_
 cases H.out; exact et (⟨.pointer (some ⟨b4,0,none⟩),Q⟩:OV) 1 [0] 0
theorem n0.c (h:n0.f=some r):Tr prog 85 [] [] (γ:=OV) (fun _=>True) (fun g=>eq g.1) (fun g=>[jX.O g r]):=by
 refine tf func85 h fun R0 F H=>?_
 refine so<|wr 4 5<|Dv.LC bB.kv (fun x:Pos=>agg (Pos.enc x)) Q T nofun (fun v5=>?_)
 refine Dv.lI (qs:=[eq v5.1]) (css:=[[eq v5.1]]) Q T W250 pl250 z250 Q ⟨(cells_one bL),T⟩ Q Q<|Dv.box Q T Q cA nofun fun b6=>go 1<|wg (jX.shut (p:=(⟨.pointer (some ⟨b6,0,none⟩),Q⟩:OV)) (m:=(⟨([]:List (bB×Pos))⟩:jX)) (b6,v5) Q (pm 2 [0,1])) fun _ _=>?_
 cases H.out; exact et (⟨.pointer (some ⟨b6,0,none⟩),Q⟩:OV) 1 [0] 0
theorem oI.c (h:oI.f a0=some r):Tr prog 30 [vI a0] [] (γ:=OV) (fun _=>True) (fun g=>lr [eq g.1,vI r.2]) (fun g=>[DV kb.O g r.1]):=by
 refine tf func30 h fun R0 F H=>?_
 refine so<|wr 7 2<|go 1<|el H fun t7 h8 H=>cx 0 [] (cL 84) (rL.c h8) nofun fun g9 _=>?_
 refine go 1<|eh Q T Q Q<|eh Q T Q Q<|go 2<|WP.seq<|so<|ce H ?_ ?_ <;> intro H
 ·
  refine so<|wg (od (O:=kb.O)) fun _ _=>?_
  cases H.out; exact et ji 2 [1,0] 1
 refine WP.skip<|wr 6 9<|el H fun t11 h12 H=>cx 1 [0] (cL 85) (n0.c h12) nofun fun g13 _=>?_
 refine go 1<|gr H fun g14 H=>vg (rH 1 Q (isN g14)) fun _ _=>?_
 refine Dv.lI (qs:=[eq g13.1,eq g9.1]) (css:=[[eq g13.1],[eq g9.1]]) Q T Lm pl177 z177 Q ⟨(cells_one bL),⟨(cells_one bL),T⟩⟩ Q Q<|Dv.box Q T Q cA nofun fun b15=>go 2<|wg (kb.shut (p:=(⟨.pointer (some ⟨b15,0,none⟩),Q⟩:OV)) (m:=(⟨t11,t7.1.getD default⟩:kb)) (b15,g13,g9) Q (pm 3 [0,2,1])) fun _ _=>?_
 cases H.out; exact et (⟨.pointer (some ⟨b15,0,none⟩),Q⟩:OV) 1 [0] 0
theorem rm.c {b off:Nat} {bT:TypeId} {qs:Cs} {m:Int} (h0:off<qs.length):Tr prog 141 [eq (.pointer (some ⟨b,off,none⟩)),vI m] [aJ b bT qs] (γ:=Unit) (fun _=>True) (fun _=>lr []) (fun _=>[aJ b bT (qs.set off (vI m))]):=by
 exact Tr.body func141 (c:=_) Q ntmps141 (Nat.le_of_ble_eq_true Q) fun R0 F=>WP.rb [(0,false),(1,false),(2,false),(3,false),(4,true)] kr<|go 4<|Dv.JV (jj:=0) (qs:=qs) Q T Q (Ez h0 func210 kr Q xf210 xg210) Q nofun<|.fin<|re Q () 1 [0] 0 .nil
theorem oE.c (h:oE.f a0 a1=some r):Tr prog 86 [vI a0,vI a1] [] (γ:=OV) (fun _=>True) (fun g=>lr [eq g.1,vI r.2]) (fun g=>[DV lh.O g r.1]):=by
 refine tf func86 h fun R0 F H=>?_
 refine so<|WP.seq<|wr 15 0<|gp 3 ?_
 cases c16:decide (a1<1)
 rotate_left
 ·
  have H:=H.ct c16
  refine go 12<|WP.cond Q (fun _=>?_) nofun
  refine so<|wg (od (O:=lh.O)) fun _ _=>?_
  cases H.out; exact et ji 1 [0] 0
 have H:=H.cf c16
 refine gp 4 ?_
 cases c18:decide (1099511627776<a1)
 rotate_left
 ·
  have H:=H.ct c18
  refine go 8<|WP.cond Q (fun _=>?_) nofun
  refine so<|wg (od (O:=lh.O)) fun _ _=>?_
  cases H.out; exact et ji 1 [0] 0
 have H:=H.cf c18
 refine gp 4 ?_
 cases c20:decide (a0<0)
 rotate_left
 ·
  have H:=H.ct c20
  refine go 4<|WP.cond Q (fun _=>?_) nofun
  refine so<|wg (od (O:=lh.O)) fun _ _=>?_
  cases H.out; exact et ji 1 [0] 0
 have H:=H.cf c20
 refine go 4<|ce H ?_ ?_ <;> intro H
 ·
  refine so<|wg (od (O:=lh.O)) fun _ _=>?_
  cases H.out; exact et ji 1 [0] 0
 refine WP.skip<|wr 4 4<|go 1<|Dv.lI (qs:=[vI 0,vI a1]) (css:=[[vI a1]]) Q T Lu pl257 z257 Q ⟨(cells_one (ah Q)),T⟩ Q Q<|Dv.box Q T Q cA nofun fun b23=>go 1<|wr 5 16<|go 4<|cx 1 [0] (cL 141) (rm.c (b:=b23) (off:=0) (bT:=257) (qs:=[vI 0,vI a1]) (m:=a0) (Nat.le_of_ble_eq_true Q)) nofun fun _ _=>?_
 refine .fin<|so<|wg (lh.shut (p:=(⟨.pointer (some ⟨b23,0,none⟩),Q⟩:OV)) (m:=(⟨(⟨a0⟩:BK),a1⟩:lh)) b23 Q (pm 1 [0])) fun _ _=>?_
 cases H.out; exact et (⟨.pointer (some ⟨b23,0,none⟩),Q⟩:OV) 1 [0] 0
theorem nD.c (h:nD.f a0 a1=some r):Tr prog 31 [vI a0,vI a1] [] (γ:=OV) (fun _=>True) (fun g=>lr [eq g.1,vI r.2]) (fun g=>[DV cI.O g r.1]):=by
 refine tf func31 h fun R0 F H=>?_
 refine so<|wr 8 4<|go 2<|el H fun t24 h25 H=>cx 0 [] (cL 86) (oE.c h25) nofun fun g26 _=>?_
 refine go 1<|eh Q T Q Q<|eh Q T Q Q<|go 2<|WP.seq<|so<|ce H ?_ ?_ <;> intro H
 ·
  refine so<|wg (od (O:=cI.O)) fun _ _=>?_
  cases H.out; exact et ji 2 [1,0] 1
 refine WP.skip<|wr 6 10<|go 1<|Dv.LC Value.string (fun x:Int=>vI x) Q T nofun (fun v28=>?_)
 refine gr H fun g29 H=>vg (rH 1 Q (isN g29)) fun _ _=>?_
 refine Dv.lI (qs:=[eq g26.1,eU,eq v28.1]) (css:=[[eq g26.1],[eq v28.1]]) Q T H3 pl183 z183 Q ⟨(cells_one bL),⟨(cells_one bL),T⟩⟩ Q Q<|Dv.box Q T Q cA nofun fun b30=>go 2<|wg (eK aE none) fun _ _=>?_
 refine wg (cI.shut (p:=(⟨.pointer (some ⟨b30,0,none⟩),Q⟩:OV)) (m:=(⟨t24.1.getD default,([]:List BA),([]:List (BA×Int))⟩:cI)) (b30,g26,lM,v28) Q (pm 4 [1,2,0,3])) fun _ _=>?_
 cases H.out; exact et (⟨.pointer (some ⟨b30,0,none⟩),Q⟩:OV) 1 [0] 0
theorem sn.c (h:sn.f=some r):Tr prog 32 [] [] (γ:=OV) (fun _=>True) (fun g=>eq g.1) (fun g=>[aO.O g r]):=by
 refine tf func32 h fun R0 F H=>?_
 refine so<|wr 4 5<|Dv.LC Value.string (fun p:OV=>eq p.1) Q T nofun (fun v31=>?_)
 refine vg (Dh bn.O) fun _ _=>?_
 refine Dv.lI (qs:=[eq v31.1]) (css:=[[eq v31.1]]) Q T Lp pl186 z186 Q ⟨(cells_one bL),T⟩ Q Q<|Dv.box Q T Q cA nofun fun b32=>go 1<|wg (aO.shut (p:=(⟨.pointer (some ⟨b32,0,none⟩),Q⟩:OV)) (m:=(⟨([]:List (BA×bn))⟩:aO)) (b32,v31) Q (pm 2 [0,1])) fun _ _=>?_
 cases H.out; exact et (⟨.pointer (some ⟨b32,0,none⟩),Q⟩:OV) 1 [0] 0
theorem oR.c (h:oR.f=some r):Tr prog 87 [] [] (γ:=OV) (fun _=>True) (fun g=>eq g.1) (fun g=>[aN.O g r]):=by
 refine tf func87 h fun R0 F H=>?_
 refine so<|wr 4 5<|Dv.LC Value.string (fun x:Int=>vI x) Q T nofun (fun v33=>?_)
 refine Dv.lI (qs:=[eU,eq v33.1]) (css:=[[eq v33.1]]) Q T KR pl261 z261 Q ⟨(cells_one bL),T⟩ Q Q<|Dv.box Q T Q cA nofun fun b34=>go 1<|wg (eK dh.K none) fun _ _=>?_
 refine wg (aN.shut (p:=(⟨.pointer (some ⟨b34,0,none⟩),Q⟩:OV)) (m:=(⟨([]:List dh),([]:List (BA×Int))⟩:aN)) (b34,lM,v33) Q (pm 3 [1,0,2])) fun _ _=>?_
 cases H.out; exact et (⟨.pointer (some ⟨b34,0,none⟩),Q⟩:OV) 1 [0] 0
theorem nT.c (h:nT.f=some r):Tr prog 33 [] [] (γ:=OV) (fun _=>True) (fun g=>eq g.1) (fun g=>[cC.O g r]):=by
 refine tf func33 h fun R0 F H=>?_
 refine so<|wr 4 5<|el H fun t35 h36 H=>cx 0 [] (cL 87) (oR.c h36) nofun fun g37 _=>?_
 refine Dv.lI (qs:=[eU,eq g37.1]) (css:=[[eq g37.1]]) Q T Ln pl190 z190 Q ⟨(cells_one bL),T⟩ Q Q<|Dv.box Q T Q cA nofun fun b38=>go 1<|wg (eK ak.K none) fun _ _=>?_
 refine wg (cC.shut (p:=(⟨.pointer (some ⟨b38,0,none⟩),Q⟩:OV)) (m:=(⟨([]:List ak),t35⟩:cC)) (b38,lM,g37) Q (pm 3 [1,0,2])) fun _ _=>?_
 cases H.out; exact et (⟨.pointer (some ⟨b38,0,none⟩),Q⟩:OV) 1 [0] 0
theorem lR.c (h:lR.f=some r):Tr prog 34 [] [] (γ:=OV) (fun _=>True) (fun g=>eq g.1) (fun g=>[cJ.O g r]):=by
 refine tf func34 h fun R0 F H=>?_
 refine so<|wr 4 5<|el H fun t39 h40 H=>cx 0 [] (cL 87) (oR.c h40) nofun fun g41 _=>?_
 refine Dv.lI (qs:=[eU,eq g41.1]) (css:=[[eq g41.1]]) Q T Ki pl192 z192 Q ⟨(cells_one bL),T⟩ Q Q<|Dv.box Q T Q cA nofun fun b42=>go 1<|wg (eK ak.K none) fun _ _=>?_
 refine wg (cJ.shut (p:=(⟨.pointer (some ⟨b42,0,none⟩),Q⟩:OV)) (m:=(⟨([]:List ak),t39⟩:cJ)) (b42,lM,g41) Q (pm 3 [1,0,2])) fun _ _=>?_
 cases H.out; exact et (⟨.pointer (some ⟨b42,0,none⟩),Q⟩:OV) 1 [0] 0
theorem uk.c (h:uk.f a0=some r):Tr prog 142 [vS a0] [] (γ:=OV) (fun _=>True) (fun g=>eq g.1) (fun g=>[bn.O g r]):=by
 refine tf func142 h fun R0 F H=>?_
 refine so<|wr 5 10<|go 1<|Dv.LC Value.string (fun p:OV=>eq p.1) Q T nofun (fun v43=>?_)
 refine vg (Dh aX.O) fun _ _=>?_
 refine Dv.lI (qs:=[vS a0,eq v43.1]) (css:=[[vS a0],[eq v43.1]]) Q T Li pl265 z265 Q ⟨(cells_one (ah Q)),⟨(cells_one bL),T⟩⟩ Q Q<|Dv.box Q T Q cA nofun fun b44=>go 1<|wg (bn.shut (p:=(⟨.pointer (some ⟨b44,0,none⟩),Q⟩:OV)) (m:=(⟨a0,([]:List (BA×aX))⟩:bn)) (b44,v43) Q (pm 2 [0,1])) fun _ _=>?_
 cases H.out; exact et (⟨.pointer (some ⟨b44,0,none⟩),Q⟩:OV) 1 [0] 0
theorem aP.r {a0:aO} {a1:BA} {r:bn} (h:aP.f a0 a1=some r):∀ x,mget a0.br a1=some x→x=r:=fun x e=>by
 unfold aP.f at h; rw [e] at h; exact Option.some.inj h
theorem aP.c {b0_:Nat} {v0_0:OV} {r:bn} (h:aP.f a0 a1=some r):Tr prog 88 [eW b0_,vS a1] [aJ b0_ 186 [eq v0_0.1],kK Value.string bn.O v0_0.1 a0.br] (γ:=OV) (fun _=>True) (fun g=>eq g.1) (fun g=>[aJ b0_ 186 [eq v0_0.1],Jx Value.string bn.O v0_0.1 a0.br a1 g,bn.O g r]):=by
 refine tf func88 h fun R0 F H=>?_
 refine WP.seq<|WP.rb [(0,false)] kr<|go 1<|WP.seq<|WP.seq<|WP.rb [(0,false),(1,false),(2,false),(3,false),(4,false),(5,false),(6,false)] kr<|go 2<|Dv.fab Q T Q Lp Q Ed Gc dc<|Dv.ldb Q T Q Ed Q (ab 0 Q) Q<|go 1<|vg (mI 1 Q) fun z1 h1=>?_
 refine Dv.EE ji Q T Q (ab 0 Q) Q Ed (dR W9) z193 (fun _=>Q)<|go 1<|WP.seq<|WP.rb [(0,false),(1,false)] kr<|go 1<|Dv.pm1 (BM h1 Q) Q T Q Q W193<|.fin<|WP.cond Q (fun c1=>?_) (fun c1=>?_)
 ·
  have e1:(mget a0.br a1).isSome=true:=by cases e:mget a0.br a1 with | none=>rw [e] at c1; cases c1 | some _=>rfl
  have H:=H.ct e1
  obtain rfl:=aW.out H
  refine WP.seq<|WP.rb [(0,false),(1,false)] kr<|go 2<|wg (FW h1 Q e1 (pm 3 [0,1,2])) fun _ _=>?_
  exact et ((mget (cW a0.br z1) a1).getD ji) 3 [2,0,1] 0
 have e1:(mget a0.br a1).isSome=false:=by cases e:mget a0.br a1 with | none=>rfl | some _=>rw [e] at c1; cases c1
 have H:=H.cf e1
 refine WP.skip<|WP.seq<|WP.rb [(0,false),(1,true),(2,false)] kr<|go 1<|cx 0 [] (cL 142) (uk.c (by obtain ⟨_,e,rfl⟩:=H; exact e)) nofun fun g2 _=>?_
 refine go 1<|wg (Gg g2 h1 Q e1 (pm 4 [1,2,0,3])) fun _ _=>?_
 exact et g2 3 [2,0,1] 0
theorem aY.c {X1_:As} (h:aY.f k a0 a1=some r):Tr prog 137 [sl aE a0,kl X1_ a1] [X1_] (γ:=Unit) (fun _=>True) (fun g=>vI r) (fun g=>[X1_]):=by
 refine tf func137 h fun R0 F H=>?_
 refine so<|sr H id [] (fun _=>[]) (fun _=>[]) (fun p54 H=>?_) (fun H=>?_)
 ·
  refine sp ?_
  cases H.out; exact et () 1 [0] 0
 refine wr 3 0<|go 1<|Dv.eX Q T Q eb<|go 1<|WP.block<|ws 1 [0] 0 ?_
 refine lq (fun j_ (p62:Int)=>aY.l0 k a0 a1 j_ p62) 0 H [0,1,7] (fun p62=>[(8,vI p62)]) (fun _=>[]) ?_
 rintro j_ x55 H
 rcases j_ with _ | j61
 ·
  exact (aW.no H).elim
 try dsimp only at H
 rw [aY.l0] at H
 refine so<|WP.seq<|cf H ?_ ?_ <;> intro H
 ·
  refine WP.exit ?_
  have H:=H.out
  exact jn (x55,decide (x55<(a0.length:Int))) H
 refine WP.skip<|WP.seq<|WP.block<|so<|wr 6 0<|go 3<|gr H fun g57 H=>Dv.jA Q T Q Q eb W9 c9 g57.1 g57.2<|mL Q T Q qN Q<|el H fun t58 h59 H=>Dv.BN (ret:=vB t58) (X:=X1_) (F:=F) Q T Q Q ⟨_,_,h59,Q,Q⟩ (my (L:=[X1_]) (F:=F) [0] Q Q Q)<|.fin<|cf H ?_ ?_ <;> intro H
 ·
  exact WP.skip<|rg 2 0<|go 2<|bk j61 (av (x55+1)) H
 refine sp ?_
 have H:=H.fU
 cases H.out; exact et () 1 [0] 0
theorem az.c {X1_:As} {p0_:OV} (h:az.f k a0 a1=some r):Tr prog 137 [eq p0_.1,kl X1_ a1] [own aE p0_.1 a0,X1_] (γ:=Unit) (fun _=>True) (fun g=>vI r) (fun g=>[own aE p0_.1 a0,X1_]):=by
 refine tf func137 h fun R0 F H=>?_
 refine so<|sr H id [] (fun _=>[]) (fun _=>[]) (fun p63 H=>?_) (fun H=>?_)
 ·
  refine sp ?_
  cases H.out; exact et () 2 [0,1] 0
 refine wr 3 0<|go 1<|Dv.kZ Q T Q (ab 0 Q) eb<|go 1<|WP.block<|ws 2 [0,1] 0 ?_
 refine lq (fun j_ (p72:Int)=>az.l0 k a0 a1 j_ p72) 0 H [0,1,7] (fun p72=>[(8,vI p72)]) (fun _=>[]) ?_
 rintro j_ x64 H
 rcases j_ with _ | j71
 ·
  exact (aW.no H).elim
 try dsimp only at H
 rw [az.l0] at H
 refine so<|WP.seq<|cf H ?_ ?_ <;> intro H
 ·
  refine WP.exit ?_
  have H:=H.out
  exact jn (x64,decide (x64<(a0.length:Int))) H
 refine WP.skip<|WP.seq<|WP.block<|so<|wr 6 0<|go 3<|gr H fun g66 H=>?_
 have h67:x64.toNat<a0.length:=bC g66
 refine Dv.kQ Q T Q (ab 0 Q) Q eb W9 c9 g66.1 g66.2<|Dv.oZ (j:=x64.toNat) (f:=0) (p:=vS (a0.getD x64.toNat default)) Q T Q (ab 0 Q) h67 W9 Q Q<|el H fun t68 h69 H=>Dv.BN (ret:=vB t68) (X:=X1_) (F:=[own aE p0_.1 a0]++F) Q T Q Q ⟨_,_,h69,Q,Q⟩ (my (L:=[own aE p0_.1 a0,X1_]) (F:=F) [1,0] Q Q Q)<|.fin<|cf H ?_ ?_ <;> intro H
 ·
  exact WP.skip<|rg 2 0<|go 2<|bk j71 (av (x64+1)) H
 refine sp ?_
 have H:=H.fU
 cases H.out; exact et () 2 [0,1] 0
theorem cG.c {X1_:As} (h:cG.f k a0 a1=some r):Tr prog 122 [sl aE a0,kl X1_ a1] [X1_] (γ:=Unit) (fun _=>True) (fun g=>vB r) (fun g=>[X1_]):=by
 refine tf func122 h fun R0 F H=>?_
 refine so<|wr 5 0<|go 2<|el H fun t75 h76 H=>oU 1 [0] (cL 137) (aY.c h76 (X1_:=X1_)) ?_
 refine gq 2 ?_
 cases H.out; exact et () 1 [0] 0
theorem cN.c {X1_:As} {p0_:OV} (h:cN.f k a0 a1=some r):Tr prog 122 [eq p0_.1,kl X1_ a1] [own aE p0_.1 a0,X1_] (γ:=Unit) (fun _=>True) (fun g=>vB r) (fun g=>[own aE p0_.1 a0,X1_]):=by
 refine tf func122 h fun R0 F H=>?_
 refine so<|wr 5 0<|go 2<|el H fun t77 h78 H=>oU 2 [0,1] (cL 137) (az.c h78 (p0_:=p0_) (X1_:=X1_)) ?_
 refine gq 2 ?_
 cases H.out; exact et () 2 [0,1] 0
theorem fE.c (h:fE.f a0 a1=some r):Pt prog 295 [vS a0,vS a1] (vB r):=by
 refine pf func295 h fun R0 F H=>?_
 refine so<|wr 14 0<|go 1<|Dv.lens Q T Q W9<|go 1<|Dv.lens Q T Q W9<|gp 2 ?_
 cases JZ:decide ((a1.size:Int)≤(a0.size:Int))
 ·
  have H:=H.cf JZ
  refine gq 8 ?_
  cases H.out; exact ek 0
 have H:=H.ct JZ
 refine go 2<|Dv.lens Q (gg Q) Q W9<|gr H fun g80 H=>Dv.Hr Q (gg Q) Q W9 dG (ff Q g80.1) g80.2.1 g80.2.2<|gq 4 ?_
 cases H.out; exact ek 0
theorem fu.c (h:fu.f a0 a1=some r):Pt prog 276 [vS a0,vS a1] (lr [vS r.1,vB r.2]):=by
 refine pf func276 h fun R0 F H=>?_
 refine so<|WP.seq<|wr 4 0<|go 2<|el H fun t81 h82 H=>cl Q (cL 295) Q (fE.c h82)<|go 1<|ce H ?_ ?_ <;> intro H
 ·
  refine sp ?_
  cases H.out; exact ek 0
 refine WP.skip<|wr 6 0<|go 2<|Dv.lens Q T Q W9<|gr H fun g84 H=>Dv.Hr Q T Q W9 (ff Q g84.1) dG g84.2.1 g84.2.2<|gq 2 ?_
 cases H.out; exact ek 0
theorem ew.c (h:ew.f a0 a1=some r):Pt prog 254 [vS a0,vS a1] (lr [vS r.1,vB r.2]):=by
 refine pf func254 h fun R0 F H=>?_
 refine so<|wr 7 0<|go 2<|el H fun t85 h86 H=>cl Q (cL 276) Q (fu.c h86)<|eh Q T Q Q<|eh Q T Q Q<|gq 2 ?_
 cases H.out; exact ek 0
theorem iR.c (h:iR.f a0=some r):Pt prog 279 [eq (.int .u8 a0)] (vB r):=by
 refine pf func279 h fun R0 F H=>?_
 refine so<|wr 15 0<|gp 3 ?_
 cases c87:decide (97≤a0)
 ·
  have H:=H.cf c87
  refine gp 7 ?_
  cases c90:decide (48≤a0)
  ·
   have H:=H.cf c90
   refine gq 5 ?_
   cases H.out; exact ek 0
  have H:=H.ct c90
  refine gq 5 ?_
  cases H.out; exact ek 0
 have H:=H.ct c87
 refine gp 4 ?_
 cases c88:decide (a0≤122)
 rotate_left
 ·
  have H:=H.ct c88
  refine gq 8 ?_
  cases H.out; exact ek 0
 have H:=H.cf c88
 refine gp 3 ?_
 cases J0:decide (48≤a0)
 ·
  have H:=H.cf J0
  refine gq 5 ?_
  cases H.out; exact ek 0
 have H:=H.ct J0
 refine gq 5 ?_
 cases H.out; exact ek 0
theorem dm.c (h:dm.f a0 a1=some r):Pt prog 281 [vS a0,eq (.int .u8 a1)] (vI r):=by
 refine pf func281 h fun R0 F H=>?_
 refine so<|wr 4 0<|go 2<|Dv.KB Q T Q (Ex func298 kr Q xf298 xg298)<|gq 1 ?_
 cases H.out; exact ek 0
theorem iI.c (h:iI.f a0 a1=some r):Pt prog 297 [vS a0,eq (.int .u8 a1)] (vI r):=by
 refine pf func297 h fun R0 F H=>?_
 refine so<|wr 4 0<|go 2<|el H fun t91 h92 H=>cl Q (cL 281) Q (dm.c h92)<|gq 1 ?_
 cases H.out; exact ek 0
theorem dZ.c {c0:BA} (h:dZ.f a0 c0=some r):Pt prog 296 [eq (.int .u8 a0),rp [vS c0]] (vB r):=by
 refine pf func296 h fun R0 F H=>?_
 refine so<|wr 9 0<|go 1<|el H fun t93 h94 H=>cl Q (cL 279) Q (iR.c h94)<|gp 1 ?_
 cases c95:t93
 rotate_left
 ·
  have H:=H.ct c95
  refine gq 6 ?_
  cases H.out; exact ek 0
 have H:=H.cf c95
 refine mL Q (gg Q) Q qN Q<|go 1<|el H fun t96 h97 H=>Dv.call Q (gg Q) (cL 297) Q (iI.c h97)<|gq 3 ?_
 cases H.out; exact ek 0
theorem jB.c (h:jB.f a0=some r):Pt prog 277 [vS a0] (gU r):=by
 refine pf func277 h fun R0 F H=>?_
 refine wr 2 1<|Dv.box Q T Q cE nofun fun b98=>go 1<|wr 2 0<|Dv.gh (r9 (E':=[(0,vS a0),(1,rp [vS a0]),(2,eq .nilFunc)]) (l':=F) 0 Q (ar Q ay (ar Q kJ (ar Q ay jG))) (gL .nil fun _=>bU)) (fun _ _=>?_)
 refine Dv.mkf (Q:=qo (fun a0_=>dZ.f a0_ a0)) (cL 296) (by rintro _ _ ⟨a0_,r_,h_,rfl,rfl⟩; exact dZ.c h_) Q T Q Q<|gq 1 ?_
 cases H.out; exact ek 0
theorem ee.c (h:ee.f k a0 a1=some r):Pt prog 255 [vS a0,vI a1] (vB r):=by
 refine pf func255 h fun R0 F H=>?_
 refine so<|wr 7 0<|el H fun t99 haa H=>cl Q (cL 277) Q (jB.c haa)<|el H fun ta hac H=>cl Q (cL 277) Q (jB.c hac)<|el H fun tc had H=>cl Q (cL 277) Q (jB.c had)<|Dv.blda (qs:=[gU t99,gU ta,gU tc]) (css:=[[gU t99],[gU ta],[gU tc]]) Q T W382 W335 c335 z382 Q ⟨(cells_one n5),⟨(cells_one n5),⟨(cells_one n5),T⟩⟩⟩ Q Q<|go 1<|gr H fun ga H=>Dv.ixa (Kd:=ox) (xs:=([t99,ta,tc]:List (Int→Option Bool))) Q T Q Q Q W382 W335 Q c335 Q Q ga.1 ga.2 Q<|go 1<|sr H id [0] (fun _=>[]) (fun _=>[]) (fun pa H=>?_) (fun H=>?_)
 ·
  refine wr 8 0<|gp 3 ?_
  cases cc:!decide (a0=eE)
  ·
   have H:=H.cf cc
   refine gq 5 ?_
   cases H.out; exact ek 0
  have H:=H.ct cc
  refine go 1<|Dv.lens Q (gg Q) Q W9<|gq 3 ?_
  cases H.out; exact ek 0
 refine wr 3 0<|go 1<|Dv.lens Q T Q W9<|go 1<|WP.block<|ws 0 [] 0 ?_
 refine lq (fun j_ (pc:Int)=>ee.l0 k a0 a1 t99 ta tc j_ pc) 0 H [0,5,14] (fun pc=>[(15,vI pc)]) (fun _=>[]) ?_
 rintro j_ xc H
 rcases j_ with _ | ja
 ·
  exact (aW.no H).elim
 try dsimp only at H
 rw [ee.l0] at H
 refine so<|WP.seq<|cf H ?_ ?_ <;> intro H
 ·
  refine WP.exit ?_
  have H:=H.out
  exact jn (xc,decide (xc<(a0.size:Int))) H
 refine WP.skip<|WP.seq<|WP.block<|so<|wr 6 0<|go 3<|gr H fun gb H=>Dv.qR Q T Q Q W9 gb.1 gb.2<|el H fun te hae H=>Dv.rZ (ret:=vB te) Q T Q Q ⟨_,_,hae,Q,Q⟩<|go 1<|cf H ?_ ?_ <;> intro H
 ·
  exact WP.skip<|rg 2 0<|go 2<|bk ja (av (xc+1)) H
 refine sp ?_
 have H:=H.fU
 cases H.out; exact ek 0
theorem eA.c (h:eA.f a0 a1=some r):Pt prog 269 [vS a0,vS a1] (vI r):=by
 refine pf func269 h fun R0 F H=>?_
 refine so<|wr 3 0<|go 1<|Dv.lens Q T Q W9<|go 1<|WP.seq<|WP.block<|wr 8 0<|gp 3 ?_
 cases I8:((a1.size:Int)==0)
 rotate_left
 ·
  have H:=H.ct I8
  refine go 5<|WP.cond Q (fun _=>?_) nofun
  refine sp ?_
  cases H.out; exact ek 0
 have H:=H.cf I8
 refine go 5<|ce H ?_ ?_ <;> intro H
 ·
  refine sp ?_
  cases H.out; exact ek 0
 refine so<|ce H ?_ ?_ <;> intro H
 ·
  refine wr 5 0<|go 2<|gr H fun ga H=>Dv.qR Q T Q Q W9 ga.1 ga.2<|el H fun ta haa H=>cl Q (cL 281) Q (dm.c haa)<|gq 1 ?_
  cases H.out; exact ek 0
 refine wr 5 0<|go 2<|Dv.lens Q T Q W9<|go 2<|cf H ?_ ?_ <;> intro H
 ·
  exact (aW.no H).elim
 refine sp ?_
 cases H.out; exact ek 0
theorem jP.c (h:jP.f a0 a1=some r):Pt prog 278 [vS a0,vS a1] (lr [vS r.1,vS r.2.1,vB r.2.2]):=by
 refine pf func278 h fun R0 F H=>?_
 refine so<|WP.seq<|wr 4 0<|go 2<|el H fun ta haa H=>cl Q (cL 269) Q (eA.c haa)<|go 1<|so<|cf H ?_ ?_ <;> intro H
 ·
  refine WP.skip<|sp ?_
  cases H.out; exact ek 0
 refine wd mX 12 0<|go 2<|gr H fun ga H=>Dv.Hr Q T Q W9 dG (ff Q ga.1) ga.2.1 ga.2.2<|go 3<|Dv.lens Q T Q W9<|go 1<|gr H fun gb H=>Dv.Hr Q T Q W9 (ff Q gb.1) dG gb.2.1 gb.2.2<|gq 3 ?_
 cases H.out; exact ek 0
theorem kg.c (h:kg.f a0 a1=some r):Pt prog 256 [vS a0,vS a1] (lr [vS r.1,vS r.2.1,vB r.2.2]):=by
 refine pf func256 h fun R0 F H=>?_
 refine so<|wr 9 0<|go 2<|el H fun ta haa H=>cl Q (cL 278) Q (jP.c haa)<|eh Q T Q Q<|eh Q T Q Q<|eh Q T Q Q<|gq 3 ?_
 cases H.out; exact ek 0
theorem lD.c (h:lD.f k a0=some r):Pt prog 257 [vS a0] (vB r):=by
 refine pf func257 h fun R0 F H=>?_
 refine so<|wr 16 0<|go 1<|el H fun ta haa H=>cl Q (cL 255) Q (ee.c haa)<|gp 1 ?_
 cases cc:ta
 ·
  have H:=H.cf cc
  refine gq 13 ?_
  cases H.out; exact ek 0
 have H:=H.ct cc
 refine go 1<|gr H fun ga H=>Dv.qR Q (gg Q) Q Q W9 ga.1 ga.2<|el H fun tc hac H=>Dv.call Q (gg Q) (cL 279) Q (iR.c hac)<|gp 2 ?_
 cases cg:tc
 ·
  have H:=H.cf cg
  refine gq 8 ?_
  cases H.out; exact ek 0
 have H:=H.ct cg
 refine go 2<|Dv.lens Q (gg Q) Q W9<|go 1<|gr H fun gb H=>Dv.qR Q (gg Q) Q Q W9 gb.1 gb.2<|el H fun te had H=>Dv.call Q (gg Q) (cL 279) Q (iR.c had)<|gq 2 ?_
 cases H.out; exact ek 0
theorem kh.c (h:kh.f k a0 a1=some r):Pt prog 225 [vS a0,vS a1] (lr [vS r.1,vS r.2.1,vB r.2.2]):=by
 refine pf func225 h fun R0 F H=>?_
 refine so<|wr 8 0<|go 2<|el H fun ta haa H=>cl Q (cL 254) Q (ew.c haa)<|go 1<|eh Q T Q Q<|eh Q T Q Q<|go 2<|wr 9 0<|go 1<|el H fun tc hac H=>cl Q (cL 256) Q (kg.c hac)<|go 1<|eh Q T Q Q<|eh Q T Q Q<|eh Q T Q Q<|go 3<|wr 17 0<|gp 4 ?_
 cases cc:ta.2
 ·
  have H:=H.cf cc
  refine gq 13 ?_
  cases H.out; exact ek 0
 have H:=H.ct cc
 refine gp 3 ?_
 cases cg:tc.2.2
 ·
  have H:=H.cf cg
  refine gq 10 ?_
  cases H.out; exact ek 0
 have H:=H.ct cg
 refine go 1<|el H fun te had H=>Dv.call Q (gg Q) (cL 255) Q (ee.c had)<|gp 2 ?_
 cases ci:te
 ·
  have H:=H.cf ci
  refine gq 6 ?_
  cases H.out; exact ek 0
 have H:=H.ct ci
 refine go 1<|el H fun tg hae H=>Dv.call Q (gg Q) (cL 257) Q (lD.c hae)<|gq 4 ?_
 cases H.out; exact ek 0
theorem mj.c (h:mj.f k a0=some r):Pt prog 156 [vS a0] (vB r):=by
 refine pf func156 h fun R0 F H=>?_
 refine so<|wr 9 0<|go 1<|el H fun ta haa H=>cl Q (cL 225) Q (kh.c haa)<|go 1<|eh Q T Q Q<|eh Q T Q Q<|eh Q T Q Q<|go 3<|sp ?_
 cases H.out; exact ek 0
theorem ei.c (h:ei.f k a0=some r):Pt prog 211 [vS a0] (vB r):=by
 refine pf func211 h fun R0 F H=>?_
 refine so<|wr 7 0<|go 1<|el H fun ta haa H=>cl Q (cL 254) Q (ew.c haa)<|go 1<|eh Q T Q Q<|eh Q T Q Q<|go 2<|wr 6 0<|gp 2 ?_
 cases Af:ta.2
 ·
  have H:=H.cf Af
  refine gq 4 ?_
  cases H.out; exact ek 0
 have H:=H.ct Af
 refine go 1<|el H fun tc hac H=>Dv.call Q (gg Q) (cL 255) Q (ee.c hac)<|gq 2 ?_
 cases H.out; exact ek 0
theorem kB.c (h:kB.f k a0=some r):Pt prog 212 [vS a0] (vB r):=by
 refine pf func212 h fun R0 F H=>?_
 refine so<|wr 9 0<|go 1<|el H fun ta haa H=>cl Q (cL 225) Q (kh.c haa)<|go 1<|eh Q T Q Q<|eh Q T Q Q<|eh Q T Q Q<|go 3<|sp ?_
 cases H.out; exact ek 0
theorem dB.c (h:dB.f k a0=some r):Pt prog 143 [agg (Event.enc a0)] (vB r):=by
 refine pf func143 h fun R0 F H=>?_
 refine wr 2 1<|Dv.box Q T Q cA nofun fun ba=>go 1<|WP.scope<|WP.seq<|wr 32 0<|gl 2 [0]<|el H fun ta haa H=>cl Q (cL 211) Q (ei.c haa)<|gp 2 ?_
 cases cc:!ta
 rotate_left
 ·
  have H:=H.ct cc
  refine go 27<|WP.cond Q (fun _=>?_) nofun
  refine sp ?_
  cases H.out; exact ek 1
 have H:=H.cf cc
 refine gl 2 [0]<|el H fun tc hac H=>Dv.call Q (gg Q) (cL 212) Q (kB.c hac)<|gp 3 ?_
 cases cg:!tc
 rotate_left
 ·
  have H:=H.ct cg
  refine go 21<|WP.cond Q (fun _=>?_) nofun
  refine sp ?_
  cases H.out; exact ek 1
 have H:=H.cf cg
 refine gl 2 [0]<|el H fun te had H=>Dv.call Q (gg Q) (cL 156) Q (mj.c had)<|gp 3 ?_
 cases ci:!te
 rotate_left
 ·
  have H:=H.ct ci
  refine go 15<|WP.cond Q (fun _=>?_) nofun
  refine sp ?_
  cases H.out; exact ek 1
 have H:=H.cf ci
 refine gl 2 [0]<|Dv.eX Q (gg Q) Q eb<|gp 3 ?_
 cases Il:decide (4<(a0.ag.length:Int))
 rotate_left
 ·
  have H:=H.ct Il
  refine go 9<|WP.cond Q (fun _=>?_) nofun
  refine sp ?_
  cases H.out; exact ek 1
 have H:=H.cf Il
 refine lx 5 [0] ?_
 cases cj:decide (a0.bO<0)
 rotate_left
 ·
  have H:=H.ct cj
  refine go 4<|WP.cond Q (fun _=>?_) nofun
  refine sp ?_
  cases H.out; exact ek 1
 have H:=H.cf cj
 refine gl 4 [0]<|ce H ?_ ?_ <;> intro H
 ·
  refine sp ?_
  cases H.out; exact ek 1
 refine WP.skip<|WP.seq<|wr 21 0<|lx 4 [0] ?_
 cases ck:!decide (a0.ae=eE)
 ·
  have H:=H.cf ck
  refine go 17<|WP.cond Q nofun (fun _=>?_)
  refine WP.skip<|so<|WP.seq<|WP.label<|sq H id [] (fun pa=>[(3,vB pa.1)]) (fun _=>[]) (fun pa H=>?_) (fun H=>?_)
  ·
   refine sp ?_
   cases H.out; exact ek 1
  refine wr 4 0<|gl 2 [0]<|Dv.eX Q T Q eb<|go 1<|WP.block<|ws 1 [0] 0 ?_
  refine lq (fun j_ (pc:Int)=>dB.l1 k a0 j_ pc) 0 H [1,3,60,61] (fun pc=>[(62,vI pc)]) (fun _=>[]) ?_
  rintro j_ xc H
  rcases j_ with _ | ja
  ·
   exact (aW.no H).elim
  try dsimp only at H
  rw [dB.l1] at H
  refine so<|WP.seq<|cf H ?_ ?_ <;> intro H
  ·
   refine WP.exit ?_
   have H:=H.out
   exact jn (true,xc,decide (xc<(a0.ag.length:Int))) H
  refine WP.skip<|WP.seq<|WP.block<|wr 5 0<|go 1<|gr H fun ga H=>Dv.jA Q T Q Q eb W9 c9 ga.1 ga.2<|mL Q T Q qN Q<|go 2<|wr 23 0<|go 1<|el H fun tg hae H=>cl Q (cL 211) Q (ei.c hae)<|gp 2 ?_
  cases cn:!tg
  rotate_left
  ·
   have H:=H.ct cn
   refine go 19<|WP.cond Q (fun _=>?_) nofun
   refine so<|WP.exit ?_
   have H:=H.out
   exact jn (false,xc,decide (xc<(a0.ag.length:Int))) H
  have H:=H.cf cn
  refine lx 6 [0] ?_
  cases co:decide ((aE.at a0.ag xc)=a0.bS)
  rotate_left
  ·
   have H:=H.ct co
   refine go 13<|WP.cond Q (fun _=>?_) nofun
   refine so<|WP.exit ?_
   have H:=H.out
   exact jn (false,xc,decide (xc<(a0.ag.length:Int))) H
  have H:=H.cf co
  refine gp 3 ?_
  cases cp:decide (0<xc)
  ·
   have H:=H.cf cp
   refine go 10<|WP.cond Q nofun (fun _=>?_)
   exact WP.skip<|rg 2 0<|go 2<|bk ja (av (xc+1)) H
  have H:=H.ct cp
  refine gl 5 [0]<|gr H fun gb H=>Dv.jA Q (gg Q) Q Q eb W9 c9 gb.1 gb.2<|mL Q (gg Q) Q qN Q<|go 3<|cf H ?_ ?_ <;> intro H
  ·
   exact WP.skip<|rg 2 0<|go 2<|bk ja (av (xc+1)) H
  refine so<|WP.exit ?_
  have H:=H.out
  exact jn (false,xc,decide (xc<(a0.ag.length:Int))) H
 have H:=H.ct ck
 refine gl 2 [0]<|el H fun tj haf H=>Dv.call Q (gg Q) (cL 211) Q (ei.c haf)<|gp 2 ?_
 cases cq:!tj
 rotate_left
 ·
  have H:=H.ct cq
  refine go 12<|WP.cond Q (fun _=>?_) nofun
  refine sp ?_
  cases H.out; exact ek 1
 have H:=H.cf cq
 refine lx 7 [0,0] ?_
 cases Gc:decide (a0.ae=a0.bS)
 rotate_left
 ·
  have H:=H.ct Gc
  refine go 5<|WP.cond Q (fun _=>?_) nofun
  refine sp ?_
  cases H.out; exact ek 1
 have H:=H.cf Gc
 refine gl 5 [0]<|ce H ?_ ?_ <;> intro H
 ·
  refine sp ?_
  cases H.out; exact ek 1
 refine WP.skip<|so<|WP.seq<|WP.label<|sq H id [] (fun pe=>[(3,vB pe.1)]) (fun _=>[]) (fun pe H=>?_) (fun H=>?_)
 ·
  refine sp ?_
  cases H.out; exact ek 1
 refine wr 4 0<|gl 2 [0]<|Dv.eX Q T Q eb<|go 1<|WP.block<|ws 1 [0] 0 ?_
 refine lq (fun j_ (pg:Int)=>dB.l0 k a0 j_ pg) 0 H [1,3,60,61] (fun pg=>[(62,vI pg)]) (fun _=>[]) ?_
 rintro j_ xd H
 rcases j_ with _ | jc
 ·
  exact (aW.no H).elim
 try dsimp only at H
 rw [dB.l0] at H
 refine so<|WP.seq<|cf H ?_ ?_ <;> intro H
 ·
  refine WP.exit ?_
  have H:=H.out
  exact jn (true,xd,decide (xd<(a0.ag.length:Int))) H
 refine WP.skip<|WP.seq<|WP.block<|wr 5 0<|go 1<|gr H fun gi H=>Dv.jA Q T Q Q eb W9 c9 gi.1 gi.2<|mL Q T Q qN Q<|go 2<|wr 23 0<|go 1<|el H fun tm hag H=>cl Q (cL 211) Q (ei.c hag)<|gp 2 ?_
 cases cr:!tm
 rotate_left
 ·
  have H:=H.ct cr
  refine go 19<|WP.cond Q (fun _=>?_) nofun
  refine so<|WP.exit ?_
  have H:=H.out
  exact jn (false,xd,decide (xd<(a0.ag.length:Int))) H
 have H:=H.cf cr
 refine lx 6 [0] ?_
 cases cu:decide ((aE.at a0.ag xd)=a0.bS)
 rotate_left
 ·
  have H:=H.ct cu
  refine go 13<|WP.cond Q (fun _=>?_) nofun
  refine so<|WP.exit ?_
  have H:=H.out
  exact jn (false,xd,decide (xd<(a0.ag.length:Int))) H
 have H:=H.cf cu
 refine gp 3 ?_
 cases cw:decide (0<xd)
 ·
  have H:=H.cf cw
  refine go 10<|WP.cond Q nofun (fun _=>?_)
  exact WP.skip<|rg 2 0<|go 2<|bk jc (av (xd+1)) H
 have H:=H.ct cw
 refine gl 5 [0]<|gr H fun gj H=>Dv.jA Q (gg Q) Q Q eb W9 c9 gj.1 gj.2<|mL Q (gg Q) Q qN Q<|go 3<|cf H ?_ ?_ <;> intro H
 ·
  exact WP.skip<|rg 2 0<|go 2<|bk jc (av (xd+1)) H
 refine so<|WP.exit ?_
 have H:=H.out
 exact jn (false,xd,decide (xd<(a0.ag.length:Int))) H
theorem ey.c {v0_0:OV} {b0_:Nat} (h:ey.f a0 a1=some r):Tr prog 144 [eW b0_,vS a1] [aJ b0_ 265 [vS a0.cO,eq v0_0.1],kK Value.string aX.O v0_0.1 a0.aq] (γ:=Unit) (fun _=>True) (fun g=>vB r) (fun g=>[aJ b0_ 265 [vS a0.cO,eq v0_0.1],kK Value.string aX.O v0_0.1 a0.aq]):=by
 refine tf func144 h fun R0 F H=>?_
 refine so<|wr 8 0<|gl 5 [0]<|vg (mI 1 Q) fun za haa=>?_
 refine Dv.EE ji Q T Q (ab 0 Q) Q wB (dR W9) Bm (fun _=>Q)<|Dv.pm1 (BM haa Q) Q T Q Q W266<|go 1<|wg (iA haa Q (pm 3 [0,1,2])) fun _ _=>?_
 cases H.out; exact et () 2 [1,0] 0
theorem eY.c {cb0_ cd0_:Nat} {cq0_ cv0_0:OV} {ch0_:cq0_.1 = .pointer (some ⟨cd0_,0,none⟩)} {c0:bn} (h:eY.f a0 c0=some r):Tr prog 145 [vS a0,eW cb0_] [aJ cb0_ 193 [eq cq0_.1],aJ cd0_ 265 [vS c0.cO,eq cv0_0.1],kK Value.string aX.O cv0_0.1 c0.aq] (γ:=Unit) (fun _=>True) (fun g=>vB r) (fun g=>[aJ cb0_ 193 [eq cq0_.1],aJ cd0_ 265 [vS c0.cO,eq cv0_0.1],kK Value.string aX.O cv0_0.1 c0.aq]):=by
 refine tf func145 h fun R0 F H=>?_
 refine so<|wr 5 0<|gl 2 [0]<|el H fun ta haa H=>oU 3 [1,2,0] (cL 144) (Tr.jZ (ey.c haa (b0_:=cd0_) (v0_0:=cv0_0)) (.cons (iM ch0_) (.cons cK .nil))) ?_
 refine gq 2 ?_
 cases H.out; exact et () 3 [0,1,2] 0
theorem dL.c (h:dL.f a0=some r):Tr prog 213 [sl aE a0] [] (γ:=OV) (fun _=>True) (fun g=>eq g.1) (fun g=>[own aE g.1 r]):=by
 unfold dL.f at h
 obtain ⟨h0,h5⟩:=(aW.of h).an
 obtain rfl:=aW.out h5
 clear h h5
 refine (Tr.body func213 (c:=_) Q ntmps213 (Nat.le_of_ble_eq_true Q) fun R0 F=>?_)
 refine WP.seq<|WP.rb [(0,false)] kr<|go 1<|WP.seq<|WP.seq<|WP.rb [(0,false),(1,true)] kr<|go 1<|Dv.snil Q T Q Q eb nofun (fun b hb=>?_)
 refine .fin<|WP.cond Q (fun c0=>?_) (fun c0=>?_)
 ·
  obtain rfl:=hb c0
  refine WP.seq<|WP.rb [(0,false)] kr<|go 1<|wg (eK aE none) fun _ _=>?_
  exact et lM 1 [0] 0
 refine WP.skip<|WP.seq<|WP.rb [(0,true),(1,false),(2,true),(3,false)] kr<|Dv.lit0 aE Q T eb W9 c9 z9 nofun (fun v1=>?_)
 refine go 1<|Dv.Eu (Kd:=aE) (xs:=[]) (v:=v1.1) (jj:=0) (ys:=a0) (fun v2:OV=>[own aE v2.1 a0]++F) Q T Q Q Q bQ eb (.inr ⟨_,eb⟩) zE Q dc (by simpa using h0) Q nofun (fun v2=>?_)
 exact go 1<|rt i2 Q v2 1 [0] 0 (.cons (aF Q) .nil)
theorem iK.c (h:iK.f a0=some r):Pt prog 146 [agg (Event.enc a0)] (agg (Event.enc r)):=by
 refine pf func146 h fun R0 F H=>?_
 refine wr 2 3<|Dv.box Q T Q cA nofun fun ba=>al Q T zO nofun fun bc=>.fin<|wr 5 20<|gl 2 [1]<|el H fun ta haa H=>cx 2 [0,1] (cL 213) (dL.c haa) nofun fun ga _=>?_
 refine go 1<|sx 2 Q T Q Q (cells_one bL) Jb Q Q Q nofun ?_
 refine .fin<|wr 2 2<|gl 1 [2]<|sy 1 ?_
 refine .fin<|fz 0 [2] [1,1] ?_
 cases H.out; exact r2 i2 Q (.cons (au Q mZ Q pG (ab 0 Q) Q) .nil)
theorem dag_Dag_Add.c {p0_:OV} (h:dag_Dag_Add.f k a0 a1=some r):Tr prog 89 [eq p0_.1,agg (Event.enc a1)] [bn.O p0_ a0] (γ:=Unit) (fun _=>True) (fun g=>vI r.1) (fun g=>[bn.O p0_ r.2]):=by
 refine tf func89 h fun R0 F H=>?_
 refine wr 3 3<|Dv.box Q T Q (cells_one bL) nofun fun ba=>Dv.box Q T Q cA nofun fun bc=>go 1<|WP.seq<|WP.block<|WP.seq<|wg (bn.iU 2 Q) fun ga haa=>?_
 refine dg mX 13 0<|gl 1 [2]<|el H fun ta hac H=>cl Q (cL 143) Q (dB.c hac)<|gp 2 ?_
 cases cc:!ta
 rotate_left
 ·
  have H:=H.ct cc
  refine go 9<|WP.cond Q (fun _=>?_) nofun
  refine so<|wg (bn.shut (p:=p0_) (m:=a0) (ga.1,ga.2) haa (pm 4 [0,1,2,3])) fun _ _=>?_
  cases H.out; exact et () 3 [1,2,0] 2
 have H:=H.cf cc
 refine gl 3 [2,3]<|Dv.bW haa Q (gg Q) Q<|fp haa Q (gg Q) Q Ii<|gl 4 [0]<|ce H ?_ ?_ <;> intro H
 ·
  refine so<|wg (bn.shut (p:=p0_) (m:=a0) (ga.1,ga.2) haa (pm 4 [0,1,2,3])) fun _ _=>?_
  cases H.out; exact et () 3 [1,2,0] 2
 refine wr 5 0<|gl 3 [3,2]<|el H fun tc had H=>oU 4 [0,1,2,3] (cL 144) (Tr.jZ (ey.c had (b0_:=ga.1) (v0_0:=ga.2)) (.cons (iM haa) (.cons cK .nil))) ?_
 refine go 1<|ce H ?_ ?_ <;> intro H
 ·
  refine so<|wg (bn.shut (p:=p0_) (m:=a0) (ga.1,ga.2) haa (pm 4 [0,1,2,3])) fun _ _=>?_
  cases H.out; exact et () 3 [1,2,0] 2
 refine wr 5 0<|gl 2 [2]<|Dv.mkx (Q:=jL (fun a0_=>eY.f a0_ a0)) (L:=[aJ ba 193 [eq p0_.1],aJ ga.1 265 [vS a0.cO,eq ga.2.1],kK Value.string aX.O ga.2.1 a0.aq]) (cL 145) (by rintro _ _ ⟨a0_,r_,h_,rfl,rfl⟩; exact eY.c h_ (cb0_:=ba) (cq0_:=p0_) (cd0_:=ga.1) (ch0_:=haa) (cv0_0:=ga.2)) Q T Q Q<|el H fun te hae H=>oU 4 [3,0,1,2] (cL 122) (Tr.J9 (A:=[]) (L:=[aJ ba 193 [eq p0_.1],aJ ga.1 265 [vS a0.cO,eq ga.2.1],kK Value.string aX.O ga.2.1 a0.aq]) (cG.c hae (X1_:=(pk [aJ ba 193 [eq p0_.1],aJ ga.1 265 [vS a0.cO,eq ga.2.1],kK Value.string aX.O ga.2.1 a0.aq])))) ?_
 refine go 1<|ce H ?_ ?_ <;> intro H
 ·
  refine so<|wg (bn.shut (p:=p0_) (m:=a0) (ga.1,ga.2) haa (pm 4 [0,1,2,3])) fun _ _=>?_
  cases H.out; exact et () 3 [1,2,0] 2
 refine WP.skip<|WP.zf H id (fun pa=>[(2,eW ba),(3,eW bc)]) (fun pa=>[aJ bc 110 (Event.enc a1),aJ ba 193 [eq p0_.1],bn.O p0_ a0]++F) (fun pa H=>?_) (fun H=>?_)
 rotate_left
 ·
  refine sL [2]<|cf H ?_ ?_ <;> intro H
  ·
   refine WP.skip ?_
   have H:=H.out
   refine ng (bn.shut (p:=p0_) (m:=a0) (ga.1,ga.2) haa (pm 4 [0,1,2,3])) fun _ _=>?_
   refine ns 3 [1,2,0] 0 ?_
   exact jn () H
  refine WP.seq<|wg (mI 1 Q) fun za haf=>?_
  refine dg mX 8 0<|gl 1 [4]<|Dv.bW haa Q T Q<|fp haa Q T Q ug<|gl 3 [2,3]<|Dv.EE ji Q T Q (ab 0 Q) Q wB (dR W9) Bm (fun _=>Q)<|go 1<|WP.seq<|wr 2 0<|go 1<|Dv.pm0 (BM haf Q) Q T Q Q W266<|.fin<|ce H ?_ ?_ <;> intro H
  ·
   refine so<|wg (iA haf Q (pm 5 [0,1,2,3,4])) fun _ _=>?_
   refine wg (bn.shut (p:=p0_) (m:=a0) (ga.1,ga.2) haa (pm 4 [1,0,2,3])) fun _ _=>?_
   have H:=H.fU
   cases H.out; exact et () 3 [1,2,0] 2
  refine WP.skip<|wr 14 0<|go 1<|gr H fun gb H=>vg (qP haf Q gb (pm 5 [1,0,2,3,4])) fun _ _=>?_
  refine Dv.qz aX.nn Q T Q (ab 0 Q)<|vg (aX.iU 0 Q) fun gi hag=>?_
  refine fp hag Q T Q ud<|lx 4 [0] ?_
  cases cg:!decide (((((mget a0.aq a1.ae).getD default).fe).ae)=eE)
  rotate_left
  ·
   have H:=H.ct cg
   refine go 7<|WP.cond Q (fun _=>?_) nofun
   refine so<|wg (aX.shut (p:=((mget (cW a0.aq za) a1.ae).getD ji)) (m:=(mget a0.aq a1.ae).getD default) gi hag (pm 6 [0,1,2,3,4,5])) fun _ _=>?_
   refine wg (oL haf Q gb (pm 6 [0,1,2,3,4,5])) fun _ _=>?_
   refine wg (iA haf Q (pm 5 [1,0,2,3,4])) fun _ _=>?_
   refine wg (bn.shut (p:=p0_) (m:=a0) (ga.1,ga.2) haa (pm 4 [1,0,2,3])) fun _ _=>?_
   have H:=H.fU
   cases H.out; exact et () 3 [1,2,0] 2
  have H:=H.cf cg
  refine go 1<|Dv.bW hag Q (gg Q) Q<|fp hag Q (gg Q) Q ud<|gl 4 [0]<|cf H ?_ ?_ <;> intro H
  ·
   refine WP.skip ?_
   have H:=H.out
   refine ng (aX.shut (p:=((mget (cW a0.aq za) a1.ae).getD ji)) (m:=(mget a0.aq a1.ae).getD default) gi hag (pm 6 [0,1,2,3,4,5])) fun _ _=>?_
   refine ng (oL haf Q gb (pm 6 [0,1,2,3,4,5])) fun _ _=>?_
   refine ng (iA haf Q (pm 5 [1,0,2,3,4])) fun _ _=>?_
   refine ng (bn.shut (p:=p0_) (m:=a0) (ga.1,ga.2) haa (pm 4 [1,0,2,3])) fun _ _=>?_
   refine ns 3 [1,2,0] 0 ?_
   exact jn () H
  refine so<|wg (aX.shut (p:=((mget (cW a0.aq za) a1.ae).getD ji)) (m:=(mget a0.aq a1.ae).getD default) gi hag (pm 6 [0,1,2,3,4,5])) fun _ _=>?_
  refine wg (oL haf Q gb (pm 6 [0,1,2,3,4,5])) fun _ _=>?_
  refine wg (iA haf Q (pm 5 [1,0,2,3,4])) fun _ _=>?_
  refine wg (bn.shut (p:=p0_) (m:=a0) (ga.1,ga.2) haa (pm 4 [1,0,2,3])) fun _ _=>?_
  have H:=H.fU
  cases H.out; exact et () 3 [1,2,0] 2
 refine wr 5 8<|gl 1 [0]<|el H fun tg hah H=>cl Q (cL 146) Q (iK.c hah)<|Dv.lI (qs:=[vS tg.bS,vS tg.aa,sl aE tg.ag,vS tg.ae,vS tg.ai,vI tg.bO,vI 0,vB false]) (css:=[Event.enc tg]) Q T Im pl268 z268 Q ⟨(aZ (Event.K.one _)),T⟩ Q Q<|Dv.box Q T Q cA nofun fun bd=>go 1<|WP.lG H id (fun pc=>[(2,eW ba),(3,eW bc),(6,eW bd)]) (fun pc=>[aJ bd 268 [vS tg.bS,vS tg.aa,sl aE tg.ag,vS tg.ae,vS tg.ai,vI tg.bO,vI pc.2.2.1,vB false],aJ bc 110 (Event.enc a1),aJ ba 193 [eq p0_.1],bn.O p0_ pc.2.2.2]++F) (fun pc H=>?_) (fun H=>?_)
 ·
  refine WP.seq<|wg (bn.iU 3 Q) fun gj hai=>?_
  refine wg (aX.shut (p:=(⟨.pointer (some ⟨bd,0,none⟩),Q⟩:OV)) (m:=(⟨tg,pc.2.2.1,false⟩:aX)) bd Q (pm 5 [2,0,1,3,4])) fun _ _=>?_
  refine wg (mI 2 Q) fun zb haj=>?_
  refine dg mX 8 128<|gl 1 [5]<|Dv.bW hai Q T Q<|fp hai Q T Q ug<|gl 4 [3,4]<|Dv.mup (vp:=fun p:OV=>eq p.1) (jj:=0) (⟨.pointer (some ⟨bd,0,none⟩),Q⟩:OV) Q T Q Q Q Q wB (dR W9) (fun _=>fO kr)<|.fin<|so<|wg (Cy aX.nn haj Q (pm 6 [0,1,2,3,4,5])) fun _ _=>?_
  refine wg (bn.shut (p:=p0_) (m:=(⟨pc.2.2.2.cO,mput pc.2.2.2.aq a1.bS (⟨tg,pc.2.2.1,false⟩:aX)⟩:bn)) (gj.1,gj.2) hai (pm 4 [1,0,2,3])) fun _ _=>?_
  cases H.out; exact et () 3 [1,2,0] 2
 refine wr 4 0<|gl 2 [1]<|Dv.eX Q T Q eb<|go 1<|WP.block<|ws 4 [0,1,2,3] 0 ?_
 refine lq (fun j_ (pe:Int×Int×bn)=>dag_Dag_Add.l0 k a1 j_ pe.1 pe.2.1 pe.2.2) (0,0,a0) H [2,3,6,63,64] (fun pe=>[(65,vI pe.1)]) (fun pe=>[(0,aJ bd 268 [vS tg.bS,vS tg.aa,sl aE tg.ag,vS tg.ae,vS tg.ai,vI tg.bO,vI pe.2.1,vB false]),(3,bn.O p0_ pe.2.2)]) ?_
 rintro j_ ⟨xc,xd,xe⟩ H
 rcases j_ with _ | ja
 ·
  exact (aW.no H).elim
 try dsimp only at H
 rw [dag_Dag_Add.l0] at H
 refine so<|WP.seq<|cf H ?_ ?_ <;> intro H
 ·
  refine WP.exit ?_
  have H:=H.out
  exact jn (xc,decide (xc<(a1.ag.length:Int)),xd,xe) H
 refine WP.skip<|WP.seq<|WP.block<|wr 3 0<|gr H fun gk H=>Dv.jA Q T Q Q eb W9 c9 gk.1 gk.2<|mL Q T Q qN Q<|go 1<|WP.seq<|wg (bn.iU 3 Q) fun gm hak=>?_
 refine wg (mI 1 Q) fun zc ham=>?_
 refine gr H fun gn H=>wg (qP ham Q gn (pm 6 [1,0,2,3,4,5])) fun _ _=>?_
 refine wg (aX.iU 0 Q) fun gu han=>?_
 refine dg mX 19 262144<|gl 6 [4,6]<|Dv.bW hak Q T Q<|fp hak Q T Q ug<|gl 2 [3]<|Dv.EE ji Q T Q (ab 2 Q) Q wB (dR W9) Bm (fun _=>Q)<|Dv.bW han Q T Q<|fp han Q T Q yo<|gl 2 [0]<|Dv.Hp Q T Q Q<|go 2<|sv 4 ?_
 refine .fin<|rg 9 256<|gl 1 [6]<|Dv.bW hak Q T Q<|fp hak Q T Q ug<|gl 2 [3]<|Dv.EE ji Q T Q (ab 2 Q) Q wB (dR W9) Bm (fun _=>Q)<|Dv.bW han Q T Q<|fp han Q T Q Js<|sy 0 ?_
 refine .fin<|rg 2 0<|go 2<|ng (aX.shut (p:=((mget (cW xe.aq zc) (aE.at a1.ag xc)).getD ji)) (m:=(⟨((mget xe.aq (aE.at a1.ag xc)).getD default).fe,((mget xe.aq (aE.at a1.ag xc)).getD default).cM,true⟩:aX)) gu han (pm 7 [0,1,2,3,4,5,6])) fun _ _=>?_
 refine ng (ye ham Q gn (pm 7 [0,1,2,3,4,5,6])) fun _ hao=>?_
 refine ng (iA hao (sF Q gn) (pm 6 [1,0,2,3,4,5])) fun _ _=>?_
 refine ng (bn.shut (p:=p0_) (m:=(⟨xe.cO,mput xe.aq (aE.at a1.ag xc) (⟨((mget xe.aq (aE.at a1.ag xc)).getD default).fe,((mget xe.aq (aE.at a1.ag xc)).getD default).cM,true⟩:aX)⟩:bn)) (gm.1,gm.2) hak (pm 5 [1,0,2,3,4])) fun _ _=>?_
 refine ns 4 [1,2,3,0] 0 ?_
 exact bk ja (av (xc+1),max xd (av ((((mget xe.aq (aE.at a1.ag xc)).getD default).cM)+1)),(⟨xe.cO,mput xe.aq (aE.at a1.ag xc) (⟨((mget xe.aq (aE.at a1.ag xc)).getD default).fe,((mget xe.aq (aE.at a1.ag xc)).getD default).cM,true⟩:aX)⟩:bn)) H
theorem iO.c {p0_:OV} (h:iO.f k a0 a1=some r):Tr prog 35 [eq p0_.1,agg (Event.enc a1)] [aO.O p0_ a0] (γ:=Unit) (fun _=>True) (fun g=>vI r.1) (fun g=>[aO.O p0_ r.2]):=by
 refine tf func35 h fun R0 F H=>?_
 refine wr 2 1<|Dv.box Q T Q cA nofun fun ba=>go 1<|wr 5 8<|gl 3 [0]<|vg (aO.iU 1 Q) fun ga haa=>?_
 refine el H fun ta hac H=>cx 3 [0,1,2] (cL 88) (Tr.jZ (aP.c hac (b0_:=ga.1) (v0_0:=ga.2)) (.cons (iM haa) (.cons cK .nil))) nofun fun va _=>?_
 refine go 1<|WP.seq<|wr 4 4<|gl 2 [3]<|el H fun tc had H=>cx 4 [2,0,1,3] (cL 89) (dag_Dag_Add.c had (p0_:=va)) nofun fun _ _=>?_
 refine go 1<|so<|ce H ?_ ?_ <;> intro H
 ·
  refine so<|wg (Ak (pm 4 [2,0,1,3])) fun _ _=>?_
  refine wg (aO.shut (p:=p0_) (m:=(⟨wm a0.br a1.aa tc.2⟩:aO)) (ga.1,ga.2) haa (pm 3 [1,0,2])) fun _ _=>?_
  cases H.out; exact et () 2 [1,0] 1
 refine WP.skip<|WP.seq<|wg (Di 2 Q) fun za hae=>?_
 refine dg mX 8 128<|go 1<|Dv.bW haa Q T Q<|fp haa Q T Q I5<|gl 4 [3,4]<|Dv.mup (vp:=fun p:OV=>eq p.1) (jj:=0) va Q T Q Q Q Q Ed (dR W9) (fun _=>fO kr)<|.fin<|so<|wg (Ij bn.nn hae (pm 5 [0,1,2,3,4])) fun _ _=>?_
 refine wg (aO.shut (p:=p0_) (m:=(⟨mput a0.br a1.aa tc.2⟩:aO)) (ga.1,ga.2) haa (pm 3 [1,0,2])) fun _ _=>?_
 cases H.out; exact et () 2 [1,0] 1
theorem iT.c (h:iT.f k a0 a1=some r):Pt prog 77 [agg (bF.enc a0),vS a1] (agg (aQ.enc r)):=by
 refine pf func77 h fun R0 F H=>?_
 refine wr 2 3<|Dv.box Q T Q cA nofun fun ba=>al Q T oz nofun fun bc=>.fin<|sr H id [1,4] (fun _=>[]) (fun _=>[]) (fun pa H=>?_) (fun H=>?_)
 ·
  refine wr 3 4<|go 1<|Dv.lI (qs:=[vS a1,eU]) (css:=[[vS a1]]) Q T mu Fl BD Q ⟨(cells_one (ah Q)),T⟩ Q Q<|sy 0 ?_
  refine .fin ?_
  cases H.out; exact r2 i2 Q (.cons (qw (au Q mu Q ot (ab 0 Q) Q) (pq (.cons cK (.cons dE .nil)))) .nil)
 refine so<|WP.block<|ws 2 [0,1] 0 ?_
 refine lq (fun j_ (pc:Int)=>iT.l0 k a0 a1 j_ pc) 0 H [1,2,4] (fun pc=>[(5,vI pc)]) (fun _=>[]) ?_
 rintro j_ xc H
 rcases j_ with _ | ja
 ·
  exact (aW.no H).elim
 try dsimp only at H
 rw [iT.l0] at H
 refine WP.seq<|wr 5 0<|gl 3 [1]<|Dv.eX Q T Q AX<|go 1<|cf H ?_ ?_ <;> intro H
 ·
  refine WP.exit ?_
  have H:=H.out
  exact jn (xc,decide (xc<(a0.fD.length:Int))) H
 refine WP.skip<|WP.seq<|WP.block<|wr 8 0<|gl 3 [1]<|gr H fun ga H=>Dv.jA Q T Q Q AX mu ot ga.1 ga.2<|fr Q T Q xP Q<|mL Q T Q qN Q<|go 2<|cf H ?_ ?_ <;> intro H
 ·
  exact WP.skip<|rg 3 0<|go 3<|bk ja (av (xc+1)) H
 refine wr 6 32<|gl 3 [1]<|gr H fun gb H=>Dv.jA Q T Q Q AX mu ot gb.1 gb.2<|ll Q T Q J7 Q<|sy 0 ?_
 refine .fin ?_
 have H:=H.fU
 cases H.out; exact r2 i2 Q (.cons (au Q mu Q ot (ab 0 Q) Q) .nil)
theorem eR.c (h:eR.f k a0=some r):Pt prog 214 [vS a0] (vI r):=by
 refine pf func214 h fun R0 F H=>?_
 refine so<|sr H id [] (fun _=>[]) (fun _=>[]) (fun pa H=>?_) (fun H=>?_)
 ·
  refine sp ?_
  cases H.out; exact ek 0
 refine so<|WP.block<|ws 0 [] 0 ?_
 refine lq (fun j_ (pc:Int)=>eR.l0 k a0 j_ pc) 0 H [0] (fun pc=>[(3,vI pc)]) (fun _=>[]) ?_
 rintro j_ xc H
 rcases j_ with _ | ja
 ·
  exact (aW.no H).elim
 try dsimp only at H
 rw [eR.l0] at H
 refine WP.seq<|wr 4 0<|go 2<|Dv.lens Q T Q W9<|go 1<|cf H ?_ ?_ <;> intro H
 ·
  refine WP.exit ?_
  have H:=H.out
  exact jn (xc,decide (xc<(a0.size:Int))) H
 refine WP.skip<|WP.seq<|WP.block<|wr 4 0<|go 2<|gr H fun ga H=>Dv.qR Q T Q Q W9 ga.1 ga.2<|go 1<|cf H ?_ ?_ <;> intro H
 ·
  exact WP.skip<|rg 3 0<|go 3<|bk ja (av (xc+1)) H
 refine sp ?_
 have H:=H.fU
 cases H.out; exact ek 0
theorem mJ.c (h:mJ.f a0=some r):Pt prog 217 [eq (.int .u8 a0)] (vB r):=by
 refine pf func217 h fun R0 F H=>?_
 refine so<|wr 15 0<|gp 3 ?_
 cases cc:decide (97≤a0)
 ·
  have H:=H.cf cc
  refine gp 7 ?_
  cases cg:decide (48≤a0)
  ·
   have H:=H.cf cg
   refine gq 5 ?_
   cases H.out; exact ek 0
  have H:=H.ct cg
  refine gq 5 ?_
  cases H.out; exact ek 0
 have H:=H.ct cc
 refine gp 4 ?_
 cases ci:decide (a0≤122)
 rotate_left
 ·
  have H:=H.ct ci
  refine gq 8 ?_
  cases H.out; exact ek 0
 have H:=H.cf ci
 refine gp 3 ?_
 cases cj:decide (48≤a0)
 ·
  have H:=H.cf cj
  refine gq 5 ?_
  cases H.out; exact ek 0
 have H:=H.ct cj
 refine gq 5 ?_
 cases H.out; exact ek 0
theorem fk.c (h:fk.f k a0=some r):Pt prog 215 [vS a0] (vB r):=by
 refine pf func215 h fun R0 F H=>?_
 refine so<|sr H id [0] (fun _=>[]) (fun _=>[]) (fun pa H=>?_) (fun H=>?_)
 ·
  refine wr 9 0<|go 1<|Dv.lens Q T Q W9<|gp 2 ?_
  cases cc:decide (0<(a0.size:Int))
  ·
   have H:=H.cf cc
   refine gq 5 ?_
   cases H.out; exact ek 0
  have H:=H.ct cc
  refine go 1<|Dv.lens Q (gg Q) Q W9<|gq 3 ?_
  cases H.out; exact ek 0
 refine so<|WP.block<|ws 0 [] 0 ?_
 refine lq (fun j_ (pc:Int)=>fk.l0 k a0 j_ pc) 0 H [0] (fun pc=>[(3,vI pc)]) (fun _=>[]) ?_
 rintro j_ xc H
 rcases j_ with _ | ja
 ·
  exact (aW.no H).elim
 try dsimp only at H
 rw [fk.l0] at H
 refine WP.seq<|wr 4 0<|go 2<|Dv.lens Q T Q W9<|go 1<|cf H ?_ ?_ <;> intro H
 ·
  refine WP.exit ?_
  have H:=H.out
  exact jn (xc,decide (xc<(a0.size:Int))) H
 refine WP.skip<|WP.seq<|WP.block<|wr 5 0<|go 2<|gr H fun ga H=>Dv.qR Q T Q Q W9 ga.1 ga.2<|el H fun ta haa H=>cl Q (cL 217) Q (mJ.c haa)<|go 1<|wr 20 0<|gp 3 ?_
 cases cg:!ta
 ·
  have H:=H.cf cg
  refine go 17<|WP.cond Q nofun (fun _=>?_)
  exact WP.skip<|rg 3 0<|go 3<|bk ja (av (xc+1)) H
 have H:=H.ct cg
 refine go 2<|gr H fun gb H=>Dv.qR Q (gg Q) Q Q W9 gb.1 gb.2<|gp 3 ?_
 cases ci:((bt a0 xc) != 46)
 ·
  have H:=H.cf ci
  refine go 11<|WP.cond Q nofun (fun _=>?_)
  exact WP.skip<|rg 3 0<|go 3<|bk ja (av (xc+1)) H
 have H:=H.ct ci
 refine go 2<|gr H fun gi H=>Dv.qR Q (gg Q) Q Q W9 gi.1 gi.2<|gp 3 ?_
 cases cj:((bt a0 xc) != 45)
 ·
  have H:=H.cf cj
  refine go 5<|WP.cond Q nofun (fun _=>?_)
  exact WP.skip<|rg 3 0<|go 3<|bk ja (av (xc+1)) H
 have H:=H.ct cj
 refine go 2<|gr H fun gj H=>Dv.qR Q (gg Q) Q Q W9 gj.1 gj.2<|go 2<|cf H ?_ ?_ <;> intro H
 ·
  exact WP.skip<|rg 3 0<|go 3<|bk ja (av (xc+1)) H
 refine sp ?_
 have H:=H.fU
 cases H.out; exact ek 0
theorem da.c (h:da.f k a0=some r):Pt prog 216 [vS a0] (vB r):=by
 refine pf func216 h fun R0 F H=>?_
 refine so<|sr H id [0] (fun _=>[]) (fun _=>[]) (fun pa H=>?_) (fun H=>?_)
 ·
  refine wr 9 0<|go 1<|Dv.lens Q T Q W9<|gp 2 ?_
  cases cc:decide (0<(a0.size:Int))
  ·
   have H:=H.cf cc
   refine gq 5 ?_
   cases H.out; exact ek 0
  have H:=H.ct cc
  refine go 1<|Dv.lens Q (gg Q) Q W9<|gq 3 ?_
  cases H.out; exact ek 0
 refine so<|WP.block<|ws 0 [] 0 ?_
 refine lq (fun j_ (pc:Int)=>da.l0 k a0 j_ pc) 0 H [0] (fun pc=>[(3,vI pc)]) (fun _=>[]) ?_
 rintro j_ xc H
 rcases j_ with _ | ja
 ·
  exact (aW.no H).elim
 try dsimp only at H
 rw [da.l0] at H
 refine WP.seq<|wr 4 0<|go 2<|Dv.lens Q T Q W9<|go 1<|cf H ?_ ?_ <;> intro H
 ·
  refine WP.exit ?_
  have H:=H.out
  exact jn (xc,decide (xc<(a0.size:Int))) H
 refine WP.skip<|WP.seq<|WP.block<|wr 5 0<|go 2<|gr H fun ga H=>Dv.qR Q T Q Q W9 ga.1 ga.2<|el H fun ta haa H=>cl Q (cL 217) Q (mJ.c haa)<|go 1<|wr 22 0<|gp 3 ?_
 cases cg:decide (0<xc)
 ·
  have H:=H.cf cg
  refine go 19<|wr 6 0<|gp 3 ?_
  cases ci:!ta
  ·
   have H:=H.cf ci
   refine go 3<|WP.cond Q nofun (fun _=>?_)
   exact WP.skip<|rg 3 0<|go 3<|bk ja (av (xc+1)) H
  have H:=H.ct ci
  refine go 3<|WP.cond Q (fun _=>?_) nofun
  refine sp ?_
  have H:=H.fU
  cases H.out; exact ek 0
 have H:=H.ct cg
 refine go 2<|Dv.lens Q (gg Q) Q W9<|gp 4 ?_
 cases cj:decide (xc<(av ((a0.size:Int)-1)))
 ·
  have H:=H.cf cj
  refine go 12<|wr 6 0<|gp 3 ?_
  cases ck:!ta
  ·
   have H:=H.cf ck
   refine go 3<|WP.cond Q nofun (fun _=>?_)
   exact WP.skip<|rg 3 0<|go 3<|bk ja (av (xc+1)) H
  have H:=H.ct ck
  refine go 3<|WP.cond Q (fun _=>?_) nofun
  refine sp ?_
  have H:=H.fU
  cases H.out; exact ek 0
 have H:=H.ct cj
 refine go 2<|gr H fun gb H=>Dv.qR Q (gg Q) Q Q W9 gb.1 gb.2<|gp 2 ?_
 cases cn:((bt a0 xc)==46)
 rotate_left
 ·
  have H:=H.ct cn
  refine go 7<|wr 6 0<|gp 3 ?_
  cases co:!ta
  ·
   have H:=H.cf co
   refine go 3<|WP.cond Q nofun (fun _=>?_)
   exact WP.skip<|rg 3 0<|go 3<|bk ja (av (xc+1)) H
  have H:=H.ct co
  refine go 3<|WP.cond Q nofun (fun _=>?_)
  exact WP.skip<|rg 3 0<|go 3<|bk ja (av (xc+1)) H
 have H:=H.cf cn
 refine go 2<|gr H fun gi H=>Dv.qR Q (gg Q) Q Q W9 gi.1 gi.2<|go 4<|wr 6 0<|gp 3 ?_
 cases cp:!ta
 ·
  have H:=H.cf cp
  refine go 3<|WP.cond Q nofun (fun _=>?_)
  exact WP.skip<|rg 3 0<|go 3<|bk ja (av (xc+1)) H
 have H:=H.ct cp
 refine go 3<|cf H ?_ ?_ <;> intro H
 ·
  exact WP.skip<|rg 3 0<|go 3<|bk ja (av (xc+1)) H
 refine sp ?_
 have H:=H.fU
 cases H.out; exact ek 0
theorem iy.c (h:iy.f k a0 a1=some r):Pt prog 149 [vS a0,eq (.int .u8 a1)] (vB r):=by
 refine pf func149 h fun R0 F H=>?_
 refine so<|wr 3 0<|go 1<|el H fun ta haa H=>cl Q (cL 214) Q (eR.c haa)<|go 1<|WP.seq<|wr 8 0<|gp 3 ?_
 cases cc:decide (ta<1)
 rotate_left
 ·
  have H:=H.ct cc
  refine go 5<|WP.cond Q (fun _=>?_) nofun
  refine sp ?_
  cases H.out; exact ek 0
 have H:=H.cf cc
 refine go 1<|gr H fun ga H=>Dv.qR Q (gg Q) Q Q W9 ga.1 ga.2<|go 3<|ce H ?_ ?_ <;> intro H
 ·
  refine sp ?_
  cases H.out; exact ek 0
 refine WP.skip<|wr 5 0<|go 2<|gr H fun gb H=>Dv.Hr Q T Q W9 (ff Q gb.1) (ff Q gb.2.1) gb.2.2.1 gb.2.2.2<|el H fun tc hac H=>cl Q (cL 215) Q (fk.c hac)<|go 1<|wr 6 0<|go 3<|gr H fun gi H=>Dv.Hr Q T Q W9 (ff Q gi.1) dG gi.2.1 gi.2.2<|el H fun te had H=>cl Q (cL 216) Q (da.c had)<|go 1<|wr 5 0<|gp 2 ?_
 cases cg:tc
 ·
  have H:=H.cf cg
  refine gq 3 ?_
  cases H.out; exact ek 0
 have H:=H.ct cg
 refine gq 3 ?_
 cases H.out; exact ek 0
theorem bV.c (h:bV.f k a0=some r):Pt prog 150 [vS a0] (vB r):=by
 refine pf func150 h fun R0 F H=>?_
 refine so<|WP.seq<|wr 13 0<|go 1<|Dv.lens Q T Q W9<|gp 2 ?_
 cases cc:decide ((a0.size:Int)<2)
 rotate_left
 ·
  have H:=H.ct cc
  refine go 9<|WP.cond Q (fun _=>?_) nofun
  refine sp ?_
  cases H.out; exact ek 0
 have H:=H.cf cc
 refine go 1<|Dv.lens Q (gg Q) Q W9<|gp 3 ?_
 cases cg:decide (17<(a0.size:Int))
 rotate_left
 ·
  have H:=H.ct cg
  refine go 4<|WP.cond Q (fun _=>?_) nofun
  refine sp ?_
  cases H.out; exact ek 0
 have H:=H.cf cg
 refine go 1<|gr H fun ga H=>Dv.qR Q (gg Q) Q Q W9 ga.1 ga.2<|go 2<|ce H ?_ ?_ <;> intro H
 ·
  refine sp ?_
  cases H.out; exact ek 0
 refine WP.skip<|sr H id [] (fun _=>[]) (fun _=>[]) (fun pa H=>?_) (fun H=>?_)
 ·
  refine sp ?_
  cases H.out; exact ek 0
 refine so<|WP.block<|ws 0 [] 0 ?_
 refine lq (fun j_ (pc:Int)=>bV.l0 k a0 j_ pc) 1 H [0] (fun pc=>[(3,vI pc)]) (fun _=>[]) ?_
 rintro j_ xc H
 rcases j_ with _ | ja
 ·
  exact (aW.no H).elim
 try dsimp only at H
 rw [bV.l0] at H
 refine WP.seq<|wr 4 0<|go 2<|Dv.lens Q T Q W9<|go 1<|cf H ?_ ?_ <;> intro H
 ·
  refine WP.exit ?_
  have H:=H.out
  exact jn (xc,decide (xc<(a0.size:Int))) H
 refine WP.skip<|WP.seq<|WP.block<|wr 5 0<|go 2<|gr H fun gb H=>Dv.qR Q T Q Q W9 gb.1 gb.2<|el H fun ta haa H=>cl Q (cL 217) Q (mJ.c haa)<|go 1<|wr 11 0<|go 2<|gr H fun gi H=>Dv.qR Q T Q Q W9 gi.1 gi.2<|gp 2 ?_
 cases ci:decide (65≤(bt a0 xc))
 ·
  have H:=H.cf ci
  refine go 6<|wr 18 0<|gp 3 ?_
  cases cj:!ta
  ·
   have H:=H.cf cj
   refine go 15<|WP.cond Q nofun (fun _=>?_)
   exact WP.skip<|rg 3 0<|go 3<|bk ja (av (xc+1)) H
  have H:=H.ct cj
  refine go 6<|gr H fun gj H=>Dv.qR Q (gg Q) Q Q W9 gj.1 gj.2<|gp 3 ?_
  cases ck:((bt a0 xc) != 45)
  ·
   have H:=H.cf ck
   refine go 5<|WP.cond Q nofun (fun _=>?_)
   exact WP.skip<|rg 3 0<|go 3<|bk ja (av (xc+1)) H
  have H:=H.ct ck
  refine go 2<|gr H fun gk H=>Dv.qR Q (gg Q) Q Q W9 gk.1 gk.2<|go 2<|cf H ?_ ?_ <;> intro H
  ·
   exact WP.skip<|rg 3 0<|go 3<|bk ja (av (xc+1)) H
  refine sp ?_
  have H:=H.fU
  cases H.out; exact ek 0
 have H:=H.ct ci
 refine go 2<|gr H fun gm H=>Dv.qR Q (gg Q) Q Q W9 gm.1 gm.2<|go 3<|wr 18 0<|gp 3 ?_
 cases cn:!ta
 ·
  have H:=H.cf cn
  refine go 15<|WP.cond Q nofun (fun _=>?_)
  exact WP.skip<|rg 3 0<|go 3<|bk ja (av (xc+1)) H
 have H:=H.ct cn
 refine gp 4 ?_
 cases co:!(decide ((bt a0 xc)≤90))
 ·
  have H:=H.cf co
  refine go 11<|WP.cond Q nofun (fun _=>?_)
  exact WP.skip<|rg 3 0<|go 3<|bk ja (av (xc+1)) H
 have H:=H.ct co
 refine go 2<|gr H fun gn H=>Dv.qR Q (gg Q) Q Q W9 gn.1 gn.2<|gp 3 ?_
 cases cp:((bt a0 xc) != 45)
 ·
  have H:=H.cf cp
  refine go 5<|WP.cond Q nofun (fun _=>?_)
  exact WP.skip<|rg 3 0<|go 3<|bk ja (av (xc+1)) H
 have H:=H.ct cp
 refine go 2<|gr H fun gu H=>Dv.qR Q (gg Q) Q Q W9 gu.1 gu.2<|go 2<|cf H ?_ ?_ <;> intro H
 ·
  exact WP.skip<|rg 3 0<|go 3<|bk ja (av (xc+1)) H
 refine sp ?_
 have H:=H.fU
 cases H.out; exact ek 0
theorem gN.c (h:gN.f k a0=some r):Pt prog 147 [agg (Event.enc a0)] (vB r):=by
 refine pf func147 h fun R0 F H=>?_
 refine wr 2 1<|Dv.box Q T Q cA nofun fun ba=>go 1<|wr 4 0<|gl 2 [0]<|el H fun ta haa H=>cl Q (cL 150) Q (bV.c haa)<|go 1<|wr 4 0<|gl 2 [0]<|el H fun tc hac H=>cl Q (cL 149) Q (iy.c hac)<|go 1<|wr 4 0<|gl 2 [0]<|el H fun te had H=>cl Q (cL 149) Q (iy.c had)<|go 1<|WP.seq<|wr 26 0<|gp 3 ?_
 cases cc:!ta
 rotate_left
 ·
  have H:=H.ct cc
  refine go 23<|WP.cond Q (fun _=>?_) nofun
  refine sp ?_
  cases H.out; exact ek 1
 have H:=H.cf cc
 refine gp 4 ?_
 cases cg:!tc
 rotate_left
 ·
  have H:=H.ct cg
  refine go 19<|WP.cond Q (fun _=>?_) nofun
  refine sp ?_
  cases H.out; exact ek 1
 have H:=H.cf cg
 refine gp 4 ?_
 cases ci:!te
 rotate_left
 ·
  have H:=H.ct ci
  refine go 15<|WP.cond Q (fun _=>?_) nofun
  refine sp ?_
  cases H.out; exact ek 1
 have H:=H.cf ci
 refine gl 2 [0]<|Dv.eX Q (gg Q) Q eb<|gp 3 ?_
 cases cj:decide (4<(a0.ag.length:Int))
 rotate_left
 ·
  have H:=H.ct cj
  refine go 9<|WP.cond Q (fun _=>?_) nofun
  refine sp ?_
  cases H.out; exact ek 1
 have H:=H.cf cj
 refine lx 5 [0] ?_
 cases ck:decide (a0.bO<0)
 rotate_left
 ·
  have H:=H.ct ck
  refine go 4<|WP.cond Q (fun _=>?_) nofun
  refine sp ?_
  cases H.out; exact ek 1
 have H:=H.cf ck
 refine gl 4 [0]<|ce H ?_ ?_ <;> intro H
 ·
  refine sp ?_
  cases H.out; exact ek 1
 refine WP.skip<|sr H id [1] (fun _=>[]) (fun _=>[]) (fun pa H=>?_) (fun H=>?_)
 rotate_left
 ·
  refine sL [0]<|cf H ?_ ?_ <;> intro H
  ·
   refine WP.skip ?_
   have H:=H.out
   exact jn () H
  refine wr 4 0<|gl 2 [0]<|el H fun tg hae H=>cl Q (cL 150) Q (bV.c hae)<|go 1<|wr 14 0<|gp 3 ?_
  cases cn:!tg
  rotate_left
  ·
   have H:=H.ct cn
   refine go 11<|WP.cond Q (fun _=>?_) nofun
   refine sp ?_
   have H:=H.fU
   cases H.out; exact ek 1
  have H:=H.cf cn
  refine lx 7 [0,0] ?_
  cases co:decide (a0.ae=a0.bS)
  rotate_left
  ·
   have H:=H.ct co
   refine go 4<|WP.cond Q (fun _=>?_) nofun
   refine sp ?_
   have H:=H.fU
   cases H.out; exact ek 1
  have H:=H.cf co
  refine gl 4 [0]<|cf H ?_ ?_ <;> intro H
  ·
   refine WP.skip ?_
   have H:=H.out
   exact jn () H
  refine sp ?_
  have H:=H.fU
  cases H.out; exact ek 1
 refine sr H id [] (fun _=>[]) (fun _=>[]) (fun pc H=>?_) (fun H=>?_)
 ·
  refine sp ?_
  cases H.out; exact ek 1
 refine so<|WP.block<|ws 1 [0] 0 ?_
 refine lq (fun j_ (pe:Int)=>gN.l0 k a0 j_ pe) 0 H [1] (fun pe=>[(7,vI pe)]) (fun _=>[]) ?_
 rintro j_ xc H
 rcases j_ with _ | ja
 ·
  exact (aW.no H).elim
 try dsimp only at H
 rw [gN.l0] at H
 refine WP.seq<|wr 5 0<|gl 3 [0]<|Dv.eX Q T Q eb<|go 1<|cf H ?_ ?_ <;> intro H
 ·
  refine WP.exit ?_
  have H:=H.out
  exact jn (xc,decide (xc<(a0.ag.length:Int))) H
 refine WP.skip<|WP.seq<|WP.block<|wr 7 0<|gl 3 [0]<|gr H fun ga H=>Dv.jA Q T Q Q eb W9 c9 ga.1 ga.2<|mL Q T Q qN Q<|el H fun tj haf H=>cl Q (cL 150) Q (bV.c haf)<|go 1<|WP.seq<|wd mX 12 0<|gp 3 ?_
 cases cp:!tj
 rotate_left
 ·
  have H:=H.ct cp
  refine go 9<|WP.cond Q (fun _=>?_) nofun
  refine sp ?_
  have H:=H.fU
  cases H.out; exact ek 1
 have H:=H.cf cp
 refine gl 3 [0]<|gr H fun gb H=>Dv.jA Q (gg Q) Q Q eb W9 c9 gb.1 gb.2<|mL Q (gg Q) Q qN Q<|gl 4 [0]<|ce H ?_ ?_ <;> intro H
 ·
  refine sp ?_
  have H:=H.fU
  cases H.out; exact ek 1
 refine WP.skip<|wd mX 17 0<|gp 3 ?_
 cases cq:decide (0<xc)
 ·
  have H:=H.cf cq
  refine go 14<|WP.cond Q nofun (fun _=>?_)
  exact WP.skip<|rg 3 0<|go 3<|bk ja (av (xc+1)) H
 have H:=H.ct cq
 refine gl 4 [0]<|Dv.Hp Q (gg Q) Q Q<|gr H fun gi H=>Dv.jA Q (gg Q) Q Q eb W9 c9 gi.1 gi.2<|mL Q (gg Q) Q qN Q<|gl 3 [0]<|gr H fun gj H=>Dv.jA Q (gg Q) Q Q eb W9 c9 gj.1 gj.2<|mL Q (gg Q) Q qN Q<|go 2<|cf H ?_ ?_ <;> intro H
 ·
  exact WP.skip<|rg 3 0<|go 3<|bk ja (av (xc+1)) H
 refine sp ?_
 have H:=H.fU
 cases H.out; exact ek 1
theorem eG.c (h:eG.f k a0 a1=some r):Pt prog 148 [agg (aQ.enc a0),vS a1] (vI r):=by
 refine pf func148 h fun R0 F H=>?_
 refine wr 2 1<|Dv.box Q T Q cA nofun fun ba=>go 1<|sr H id [] (fun _=>[]) (fun _=>[]) (fun pa H=>?_) (fun H=>?_)
 ·
  refine sp ?_
  cases H.out; exact ek 1
 refine so<|WP.block<|ws 1 [0] 0 ?_
 refine lq (fun j_ (pc:Int)=>eG.l0 k a0 a1 j_ pc) 0 H [1,2] (fun pc=>[(5,vI pc)]) (fun _=>[]) ?_
 rintro j_ xc H
 rcases j_ with _ | ja
 ·
  exact (aW.no H).elim
 try dsimp only at H
 rw [eG.l0] at H
 refine WP.seq<|wr 5 0<|gl 3 [0]<|Dv.eX Q T Q rR<|go 1<|cf H ?_ ?_ <;> intro H
 ·
  refine WP.exit ?_
  have H:=H.out
  exact jn (xc,decide (xc<(a0.fL.length:Int))) H
 refine WP.skip<|WP.seq<|WP.block<|wr 8 0<|gl 3 [0]<|gr H fun ga H=>Dv.jA Q T Q Q rR mZ pG ga.1 ga.2<|fr Q T Q Jc Q<|mL Q T Q qN Q<|go 2<|cf H ?_ ?_ <;> intro H
 ·
  exact WP.skip<|rg 3 0<|go 3<|bk ja (av (xc+1)) H
 refine sp ?_
 have H:=H.fU
 cases H.out; exact ek 1
theorem dO.c (h:dO.f k a0 a1=some r):Pt prog 91 [agg (aQ.enc a0),agg (Event.enc a1)] (lr [agg (aQ.enc r.1),vI r.2]):=by
 refine pf func91 h fun R0 F H=>?_
 refine wr 4 7<|Dv.box Q T Q cA nofun fun ba=>Dv.box Q T Q cA nofun fun bc=>al Q T oz nofun fun bd=>go 1<|wr 3 0<|gl 1 [1]<|el H fun ta haa H=>cl Q (cL 147) Q (gN.c haa)<|go 1<|WP.seq<|wr 9 0<|gp 3 ?_
 cases cc:!ta
 rotate_left
 ·
  have H:=H.ct cc
  refine go 6<|WP.cond Q (fun _=>?_) nofun
  refine wr 3 2<|gl 1 [2]<|sy 0 ?_
  refine gq 1 ?_
  cases H.out; exact r3 i2 Q (.cons (au Q mu Q ot (ab 0 Q) Q) (.cons (aF Q) .nil))
 have H:=H.cf cc
 refine gl 6 [1,2]<|ce H ?_ ?_ <;> intro H
 ·
  refine wr 3 2<|gl 1 [2]<|sy 0 ?_
  refine gq 1 ?_
  cases H.out; exact r3 i2 Q (.cons (au Q mu Q ot (ab 0 Q) Q) (.cons (aF Q) .nil))
 refine WP.skip<|WP.seq<|wr 5 0<|gl 3 [2,1]<|el H fun tc hac H=>cl Q (cL 148) Q (eG.c hac)<|go 1<|ce H ?_ ?_ <;> intro H
 ·
  refine wr 3 2<|gl 1 [2]<|sy 0 ?_
  refine gq 1 ?_
  cases H.out; exact r3 i2 Q (.cons (au Q mu Q ot (ab 0 Q) Q) (.cons (aF Q) .nil))
 refine WP.skip<|sr H id [2,3,4] (fun _=>[]) (fun _=>[]) (fun pa H=>?_) (fun H=>?_)
 rotate_left
 ·
  refine so<|WP.block<|ws 3 [0,1,2] 0 ?_
  refine lq (fun j_ (pc:Int)=>dO.l0 k a0 a1 j_ pc) 0 H [2,3,4] (fun pc=>[(7,vI pc)]) (fun _=>[]) ?_
  rintro j_ xc H
  rcases j_ with _ | ja
  ·
   exact (aW.no H).elim
  try dsimp only at H
  rw [dO.l0] at H
  refine WP.seq<|wr 5 0<|gl 3 [1]<|Dv.eX Q T Q eb<|go 1<|cf H ?_ ?_ <;> intro H
  ·
   refine WP.exit ?_
   have H:=H.out
   exact jn (xc,decide (xc<(a1.ag.length:Int))) H
  refine WP.skip<|WP.seq<|WP.block<|wd mX 8 0<|gl 4 [2,1]<|gr H fun ga H=>Dv.jA Q T Q Q eb W9 c9 ga.1 ga.2<|mL Q T Q qN Q<|el H fun te had H=>cl Q (cL 148) Q (eG.c had)<|go 1<|cf H ?_ ?_ <;> intro H
  ·
   exact WP.skip<|rg 3 0<|go 3<|bk ja (av (xc+1)) H
  refine wr 3 2<|gl 1 [2]<|sy 0 ?_
  refine gq 1 ?_
  have H:=H.fU
  cases H.out; exact r3 i2 Q (.cons (au Q mu Q ot (ab 0 Q) Q) (.cons (aF Q) .nil))
 refine sr H id [2,3,4] (fun _=>[]) (fun _=>[]) (fun pe H=>?_) (fun H=>?_)
 ·
  refine so<|wr 5 8<|gl 3 [2]<|vg (eK Event.K none) fun _ _=>?_
  refine gr H fun gb H=>ap Event.K 0 a0.fL bQ rR (.inr ⟨_,rR⟩) vP gb nofun fun va=>?_
  refine go 1<|wd mX 9 160<|gl 4 [3,2]<|Dv.lit Event.K ([a1]:List Event) (css:=[Event.enc a1]) Q T rR mZ pG Ga Q dc dc Q ⟨(aZ (Event.K.one _)),T⟩ Q Q Q<|gr H fun gi H=>Dv.Eu (Kd:=Event.K) (jj:=0) (ys:=([a1]:List Event)) (fun vb:OV=>[own Event.K vb.1 ((([]:List Event)++a0.fL)++([a1]:List Event)),aJ bd 113 [vS eE,eU],aJ bc 110 (Event.enc a1),aJ ba 113 (aQ.enc a0)]++F) Q T Q Q Q bQ rR (.inr ⟨_,rR⟩) vP Q dc gi Q pD (fun vb=>?_)
  refine Dv.lI (qs:=[vS a0.aa,eq vb.1]) (css:=[[vS a0.aa],[eq vb.1]]) Q T mu Fl BD Q ⟨(cells_one (ah Q)),⟨(cells_one bL),T⟩⟩ Q Q<|sv 1 ?_
  refine go 1<|fz 0 [4,5] [1] ?_
  cases H.out; exact r3 i2 Q (.cons (au Q mu Q ot (ab 0 Q) Q) (.cons (aF Q) .nil))
 refine sL [1]<|cf H ?_ ?_ <;> intro H
 ·
  refine WP.skip ?_
  have H:=H.out
  exact jn () H
 refine wr 5 0<|gl 3 [2,1]<|el H fun tg hae H=>cl Q (cL 148) Q (eG.c hae)<|go 1<|WP.seq<|so<|ce H ?_ ?_ <;> intro H
 ·
  refine wr 3 2<|gl 1 [2]<|sy 0 ?_
  refine gq 1 ?_
  have H:=H.fU
  cases H.out; exact r3 i2 Q (.cons (au Q mu Q ot (ab 0 Q) Q) (.cons (aF Q) .nil))
 refine WP.skip<|wr 16 0<|gl 3 [2]<|gr H fun gj H=>Dv.jA Q T Q Q rR mZ pG gj.1 gj.2<|fr Q T Q xQ Q<|mL Q T Q qN Q<|gp 2 ?_
 cases cg:!decide (((Event.K.at a0.fL tg).ae)=eE)
 rotate_left
 ·
  have H:=H.ct cg
  refine go 8<|WP.cond Q (fun _=>?_) nofun
  refine wr 3 2<|gl 1 [2]<|sy 0 ?_
  refine gq 1 ?_
  have H:=H.fU
  cases H.out; exact r3 i2 Q (.cons (au Q mu Q ot (ab 0 Q) Q) (.cons (aF Q) .nil))
 have H:=H.cf cg
 refine gl 3 [2]<|gr H fun gk H=>Dv.jA Q (gg Q) Q Q rR mZ pG gk.1 gk.2<|fr Q (gg Q) Q CS Q<|mL Q (gg Q) Q Hm Q<|go 2<|cf H ?_ ?_ <;> intro H
 ·
  refine WP.skip ?_
  have H:=H.out
  exact jn () H
 refine wr 3 2<|gl 1 [2]<|sy 0 ?_
 refine gq 1 ?_
 have H:=H.fU
 cases H.out; exact r3 i2 Q (.cons (au Q mu Q ot (ab 0 Q) Q) (.cons (aF Q) .nil))
theorem eB.c (h:eB.f k a0 a1=some r):Pt prog 90 [agg (bF.enc a0),agg (Event.enc a1)] (lr [agg (bF.enc r.1),vI r.2]):=by
 refine pf func90 h fun R0 F H=>?_
 refine wr 4 7<|Dv.box Q T Q cA nofun fun ba=>Dv.box Q T Q cA nofun fun bc=>al Q T HS nofun fun bd=>go 1<|wd mX 12 1536<|gl 3 [2,1]<|el H fun ta haa H=>cl Q (cL 77) Q (iT.c haa)<|gl 1 [1]<|el H fun tc hac H=>cl Q (cL 91) Q (dO.c hac)<|go 1<|eh Q T Q Q<|eh Q T Q Q<|al Q T oz pD fun be=>sx 0 Q T Q Q cA sz113 Q Q Q pD ?_
 refine go 1<|WP.seq<|so<|ce H ?_ ?_ <;> intro H
 ·
  refine wr 4 4<|gl 2 [3]<|sy 1 ?_
  refine gq 1 ?_
  cases H.out; exact r4 i2 Q (.cons (au Q KM Q c33 (ab 1 Q) Q) (.cons (aF Q) .nil))
 refine WP.skip<|so<|so<|WP.lG H (fun qh:(Bool×Int×Bool×(List aQ))×OV=>qh.1) (fun qh=>[(4,eW bd),(6,eW be),(8,eq qh.2.1),(9,vB qh.1.1)]) (fun qh=>[aJ be 113 (aQ.enc tc.1),aJ bd 33 [eU],aJ bc 110 (Event.enc a1),aJ ba 33 (bF.enc a0),own aQ.K qh.2.1 qh.1.2.2.2]++F) (fun qh H=>?_) (fun H=>?_)
 ·
  obtain ⟨pa,va⟩:=qh
  refine WP.seq<|so<|cf H ?_ ?_ <;> intro H
  ·
   refine WP.skip<|wr 4 4<|go 1<|Dv.lI (qs:=[eq va.1]) (css:=[[eq va.1]]) Q T KM pl33 z33 Q ⟨(cells_one bL),T⟩ Q Q<|sy 1 ?_
   refine go 1<|fz 4 [4,5] [0,1] ?_
   cases H.out; exact r4 i2 Q (.cons (au Q KM Q c33 (ab 1 Q) Q) (.cons (aF Q) .nil))
  refine rg 5 8<|gl 2 [0]<|Dv.lit aQ.K ([tc.1]:List aQ) (css:=[aQ.enc tc.1]) Q T AX mu ot BD Q dc dc Q ⟨(aZ (aQ.K.one _)),T⟩ Q Q Q<|gr H fun ga H=>ap aQ.K 4 ([tc.1]:List aQ) bQ AX (.inr ⟨_,AX⟩) Bf ga nofun fun vb=>?_
  refine go 1<|wr 4 4<|go 1<|Dv.lI (qs:=[eq vb.1]) (css:=[[eq vb.1]]) Q T KM pl33 z33 Q ⟨(cells_one bL),T⟩ Q Q<|sy 1 ?_
  refine go 1<|fz 4 [4,5] [0,1] ?_
  cases H.out; exact r4 i2 Q (.cons (au Q KM Q c33 (ab 1 Q) Q) (.cons (aF Q) .nil))
 refine so<|WP.block<|wg (eK aQ.K none) fun _ _=>?_
 refine ws 5 [1,2,3,4,0] 0 ?_
 refine lq (fun j_ (pc:Bool×Int×(List aQ)×OV)=>eB.l0 k a0 a1 tc j_ pc.1 pc.2.1 pc.2.2.1) (false,0,([]:List aQ),lM) H [2,3,4,6] (fun pc=>[(8,eq pc.2.2.2.1),(9,vB pc.1),(10,vI pc.2.1)]) (fun pc=>[(4,own aQ.K pc.2.2.2.1 pc.2.2.1)]) ?_
 rintro j_ ⟨xc,xd,xe,vd⟩ H
 rcases j_ with _ | ja
 ·
  exact (aW.no H).elim
 try dsimp only at H
 rw [eB.l0] at H
 refine WP.seq<|wr 5 0<|gl 3 [3]<|Dv.eX Q T Q AX<|go 1<|cf H ?_ ?_ <;> intro H
 ·
  refine WP.exit ?_
  have H:=H.out
  exact jn ((xc,xd,decide (xd<(a0.fD.length:Int)),xe),vd) H
 refine WP.skip<|WP.seq<|WP.block<|WP.lG H (fun qi:(Bool×Bool×(List aQ))×OV=>qi.1) (fun qi=>[(2,eW ba),(3,eW bc),(4,eW bd),(6,eW be),(8,eq qi.2.1),(9,vB qi.1.1),(10,vI xd)]) (fun qi=>[aJ be 113 (aQ.enc tc.1),aJ bd 33 [eU],aJ bc 110 (Event.enc a1),aJ ba 33 (bF.enc a0),own aQ.K qi.2.1 qi.1.2.2]++F) (fun qi H=>?_) (fun H=>?_)
 ·
  obtain ⟨pe,ve⟩:=qi
  refine wd mX 9 0<|gl 3 [3]<|gr H fun gb H=>Dv.jA Q T Q Q AX mu ot gb.1 gb.2<|fr Q T Q xP Q<|mL Q T Q qN Q<|gl 3 [2]<|cf H ?_ ?_ <;> intro H
  ·
   exact WP.skip<|rg 3 0<|go 3<|bk ja (pe.1,av (xd+1),pe.2.2,ve) H
  refine rg 9 128<|gl 4 [3]<|gr H fun gi H=>Dv.jA Q T Q Q AX mu ot gi.1 gi.2<|ll Q T Q J7 Q<|Dv.lit aQ.K ([aQ.K.at a0.fD xd]:List aQ) (css:=[aQ.enc (aQ.K.at a0.fD xd)]) Q T AX mu ot BD Q dc dc Q ⟨(aZ (aQ.K.one _)),T⟩ Q Q Q<|gr H fun gj H=>ap aQ.K 4 ([aQ.K.at a0.fD xd]:List aQ) bQ AX (.inr ⟨_,AX⟩) Bf gj nofun fun vh=>?_
  exact go 1<|rg 3 0<|go 3<|bk ja (pe.1,av (xd+1),pe.2.2++([aQ.K.at a0.fD xd]:List aQ),vh) H
 refine wd mX 13 0<|gp 3 ?_
 cases cc:!xc
 ·
  have H:=H.cf cc
  refine go 10<|WP.cond Q nofun (fun _=>?_)
  refine WP.skip ?_
  have H:=H.out
  exact jn ((xc,false,xe),vd) H
 have H:=H.ct cc
 refine gl 5 [2,3]<|gr H fun gk H=>Dv.jA Q (gg Q) Q Q AX mu ot gk.1 gk.2<|fr Q (gg Q) Q xP Q<|mL Q (gg Q) Q qN Q<|go 2<|cf H ?_ ?_ <;> intro H
 ·
  refine WP.skip ?_
  have H:=H.out
  exact jn ((xc,!dI ((aQ.K.at a0.fD xd).aa) a1.aa,xe),vd) H
 refine wr 5 8<|gl 2 [0]<|Dv.lit aQ.K ([tc.1]:List aQ) (css:=[aQ.enc tc.1]) Q T AX mu ot BD Q dc dc Q ⟨(aZ (aQ.K.one _)),T⟩ Q Q Q<|gr H fun gm H=>ap aQ.K 4 ([tc.1]:List aQ) bQ AX (.inr ⟨_,AX⟩) Bf gm nofun fun vi=>?_
 refine go 1<|rg 1 0<|gq 1 ?_
 have H:=H.out
 exact jn ((true,!dI ((aQ.K.at a0.fD xd).aa) a1.aa,xe++([tc.1]:List aQ)),vi) H
theorem gY.c (h:gY.f k a0=some r):Pt prog 36 [sl Event.K a0] (agg (bF.enc r)):=by
 refine pf func36 h fun R0 F H=>?_
 refine wr 1 1<|al Q T HS nofun fun ba=>.fin<|wr 1 1<|al Q T HS nofun fun bc=>.fin<|sq H id [2,3] (fun _=>[]) (fun pa=>[(0,aJ bc 33 [sl aQ.K pa.2.2])]) (fun pa H=>?_) (fun H=>?_)
 ·
  refine wr 2 2<|gl 1 [0]<|sy 1 ?_
  refine .fin ?_
  cases H.out; exact r2 i2 Q (.cons (au Q KM Q c33 (ab 1 Q) Q) .nil)
 refine so<|WP.block<|WP.gh (JN (E':=[(0,sl Event.K a0),(2,eW ba),(3,eW bc),(4,vI 0)]) (l':=[aJ bc 33 [sl aQ.K ([]:List aQ)],aJ ba 33 [eU]]++F) (lL Q cK (lL Q cK (lL Q cK (lL Q cK Ch)))) (gL (.cons (CL (.cons dE .nil)) (.cons xM .nil)) fun _=>xM)) (fun _ _=>?_)
 refine ws 2 [0,1] 0 ?_
 refine lq (fun j_ (pc:Int×(List aQ))=>gY.l0 k a0 j_ pc.1 pc.2) (0,([]:List aQ)) H [0,2,3] (fun pc=>[(4,vI pc.1)]) (fun pc=>[(0,aJ bc 33 [sl aQ.K pc.2])]) ?_
 rintro j_ ⟨xc,xd⟩ H
 rcases j_ with _ | ja
 ·
  exact (aW.no H).elim
 try dsimp only at H
 rw [gY.l0] at H
 refine WP.seq<|wr 4 0<|go 2<|Dv.eX Q T Q rR<|go 1<|cf H ?_ ?_ <;> intro H
 ·
  refine WP.exit ?_
  have H:=H.out
  exact jn (xc,decide (xc<(a0.length:Int)),xd) H
 refine WP.skip<|WP.seq<|WP.block<|wd mX 12 1536<|gl 3 [0]<|gr H fun ga H=>Dv.jA Q T Q Q rR mZ pG ga.1 ga.2<|ll Q T Q J1 Q<|el H fun ta haa H=>cl Q (cL 90) Q (eB.c haa)<|go 1<|eh Q T Q Q<|eh Q T Q Q<|al Q T HS pD fun bd=>sx 0 Q T Q Q cA sz33 Q Q Q pD ?_
 refine go 1<|rg 2 2<|gl 1 [0]<|sy 1 ?_
 refine .fin<|rg 3 0<|go 3<|ns 3 [0,1,2] 1 ?_
 exact bk ja (av (xc+1),ta.1.fD) H
theorem gB.c (h:gB.f k a0 a1=some r):Tr prog 8 [sl Event.K a0,vI a1] [] (γ:=OV×OV×OV×OV×OV) (fun _=>True) (fun g=>lr [agg [eq g.1.1,eq g.2.1.1,eq g.2.2.1.1,eq g.2.2.2.1.1,eq g.2.2.2.2.1],agg (dQ.enc r.2.1),vB r.2.2]) (fun g=>[aO.O g.1 r.1.dx,kb.O g.2.1 r.1.aB,cC.O g.2.2.1 r.1.aw,cJ.O g.2.2.2.1 r.1.bq,cI.O g.2.2.2.2 r.1.jE]):=by
 refine tf func8 h fun R0 F H=>?_
 refine wr 3 3<|al Q T KP nofun fun ba=>al Q T GI nofun fun bc=>go 1<|wr 6 1<|el H fun ta haa H=>cx 2 [0,1] (cL 30) (oI.c haa) nofun fun ga _=>?_
 refine go 1<|eh Q T Q Q<|eh Q T Q Q<|go 2<|wr 9 8<|go 3<|el H fun tc hac H=>cx 3 [0,1,2] (cL 31) (nD.c hac) nofun fun gb _=>?_
 refine go 1<|eh Q T Q Q<|eh Q T Q Q<|go 2<|wr 8 205<|el H fun te had H=>cx 4 [0,1,2,3] (cL 32) (sn.c had) nofun fun gi _=>?_
 refine go 1<|el H fun tg hae H=>cx 5 [0,1,2,3,4] (cL 33) (nT.c hae) nofun fun gj _=>?_
 refine el H fun tj haf H=>cx 6 [0,1,2,3,4,5] (cL 34) (lR.c haf) nofun fun gk _=>?_
 refine go 1<|gr H fun gm H=>vg (rH 4 Q (isN gm)) fun _ _=>?_
 refine gr H fun gn H=>vg (rH 4 Q (isN gn)) fun _ _=>?_
 refine Dv.lI (qs:=[eq gi.1,eq ga.1,eq gj.1,eq gk.1,eq gb.1]) (css:=[[eq gi.1],[eq ga.1],[eq gj.1],[eq gk.1],[eq gb.1]]) Q T LF pl30 z30 Q ⟨(cells_one bL),⟨(cells_one bL),⟨(cells_one bL),⟨(cells_one bL),⟨(cells_one bL),T⟩⟩⟩⟩⟩ Q Q<|al Q T KP nofun fun bd=>sy 0 ?_
 refine .fin<|WP.seq<|wr 31 0<|gl 2 [0]<|Dv.GG aO.nn Q T Q Q W24 (ab 5 Q)<|gl 3 [0]<|Dv.GG kb.nn Q (gg Q) Q Q W25 (ab 2 Q)<|gl 4 [0]<|Dv.GG cC.nn Q (gg Q) Q Q W26 (ab 4 Q)<|gl 4 [0]<|Dv.GG cJ.nn Q (gg Q) Q Q W27 (ab 3 Q)<|gl 4 [0]<|Dv.GG cI.nn Q (gg Q) Q Q W28 (ab 1 Q)<|gp 6 ?_
 rcases bm H with ⟨cc,H⟩ | ⟨cc,H⟩
 rotate_left
 ·
  refine sh 55 cc ?_
  refine sh 56 cc ?_
  refine sh 57 cc ?_
  refine go 3<|WP.cond Q (fun _=>?_) nofun
  refine wr 5 12<|gl 1 [0]<|Dv.lI (qs:=[eU,eU,eU,eU,eU,eU,eU,vI 0]) (css:=[]) Q T Bz Iz z43 Q T Q Q<|sy 7 ?_
  refine sy 6 ?_
  refine gq 1 ?_
  obtain rfl:=aW.out H
  exact rt i2 Q (gi,ga,gj,gk,gb) 8 [0,6,7,5,2,4,3,1] 3 (.cons (au Q LF Q c30 (ab 7 Q) Q) (.cons (qw (au Q Bz Q GO (ab 6 Q) Q) (pq (.cons dE (.cons dE (.cons dE (.cons dE (.cons dE (.cons dE (.cons dE (.cons cK .nil)))))))))) (.cons (aF Q) .nil)))
 refine sh 55 cc ?_
 refine sh 56 cc ?_
 refine sh 57 cc ?_
 refine go 3<|ce H ?_ ?_ <;> intro H
 ·
  refine wr 5 12<|gl 1 [0]<|Dv.lI (qs:=[eU,eU,eU,eU,eU,eU,eU,vI 0]) (css:=[]) Q T Bz Iz z43 Q T Q Q<|sy 7 ?_
  refine sy 6 ?_
  refine gq 1 ?_
  obtain rfl:=aW.out H
  exact rt i2 Q (gi,ga,gj,gk,gb) 8 [0,6,7,5,2,4,3,1] 3 (.cons (au Q LF Q c30 (ab 7 Q) Q) (.cons (qw (au Q Bz Q GO (ab 6 Q) Q) (pq (.cons dE (.cons dE (.cons dE (.cons dE (.cons dE (.cons dE (.cons dE (.cons cK .nil)))))))))) (.cons (aF Q) .nil)))
 refine WP.skip<|WP.zf H id (fun pa=>[(0,sl Event.K a0),(1,vI a1),(4,eW ba),(5,eW bc),(11,eW bd)]) (fun pa=>[aJ bd 30 [eq gi.1,eq ga.1,eq gj.1,eq gk.1,eq gb.1],aJ bc 43 [eU,eU,eU,eU,eU,eU,eU,vI 0],aJ ba 30 [eq (.pointer none),eq (.pointer none),eq (.pointer none),eq (.pointer none),eq (.pointer none)],cI.O gb (tc.1.getD default),kb.O ga (ta.1.getD default),cJ.O gk tj,cC.O gj tg,aO.O gi pa.2.2]++F) (fun pa H=>?_) (fun H=>?_)
 ·
  refine wd mX 8 96<|gl 2 [0]<|el H fun tm hag H=>cl Q (cL 36) Q (gY.c hag)<|go 1<|Dv.lI (qs:=[sl aQ.K tm.fD,eU,eU,eU,eU,eU,eU,vI a1]) (css:=[bF.enc tm,[vI a1]]) Q T Bz Iz z43 Q ⟨(aZ (bF.K.one _)),⟨(cells_one (ah Q)),T⟩⟩ Q Q<|sx 2 Q T Q Q cA sz30 Q Q Q pD ?_
  refine sv 1 ?_
  refine gq 1 ?_
  obtain rfl:=aW.out H
  exact rt i2 Q (gi,ga,gj,gk,gb) 8 [0,1,2,7,4,6,5,3] 3 (.cons (au Q LF Q c30 (ab 2 Q) Q) (.cons (qw (au Q Bz Q GO (ab 1 Q) Q) (pq (.cons cK (.cons dE (.cons dE (.cons dE (.cons dE (.cons dE (.cons dE (.cons cK .nil)))))))))) (.cons (aF Q) .nil)))
 refine so<|WP.block<|ws 8 [0,6,7,1,2,3,4,5] 0 ?_
 refine lq (fun j_ (pc:Int×aO)=>gB.l0 k a0 ta tc tg tj j_ pc.1 pc.2) (0,te) H [0,1,4,5,11] (fun pc=>[(12,vI pc.1)]) (fun pc=>[(7,aO.O gi pc.2)]) ?_
 rintro j_ ⟨xc,xd⟩ H
 rcases j_ with _ | ja
 ·
  exact (aW.no H).elim
 try dsimp only at H
 rw [gB.l0] at H
 refine WP.seq<|wr 4 0<|go 2<|Dv.eX Q T Q rR<|go 1<|cf H ?_ ?_ <;> intro H
 ·
  refine WP.exit ?_
  have H:=H.out
  exact jn (xc,decide (xc<(a0.length:Int)),xd) H
 refine WP.skip<|WP.seq<|WP.block<|wd mX 8 64<|gl 4 [0]<|gr H fun gu H=>Dv.jA Q T Q Q rR mZ pG gu.1 gu.2<|ll Q T Q J1 Q<|el H fun tn hah H=>cx 8 [7,0,1,2,3,4,5,6] (cL 35) (iO.c hah (p0_:=gi)) pC fun _ _=>?_
 refine go 1<|cf H ?_ ?_ <;> intro H
 ·
  refine WP.skip<|rg 3 0<|go 3<|ns 8 [1,2,3,4,5,6,7,0] 0 ?_
  exact bk ja (av (xc+1),tn.2) H
 refine wr 5 12<|gl 1 [1]<|Dv.lI (qs:=[eU,eU,eU,eU,eU,eU,eU,vI 0]) (css:=[]) Q T Bz Iz z43 Q T Q Q<|sy 3 ?_
 refine sy 2 ?_
 refine gq 1 ?_
 have H:=H.fU
 obtain rfl:=aW.out H
 exact rt i2 Q (gi,ga,gj,gk,gb) 8 [1,2,3,0,5,7,6,4] 3 (.cons (au Q LF Q c30 (ab 3 Q) Q) (.cons (qw (au Q Bz Q GO (ab 2 Q) Q) (pq (.cons dE (.cons dE (.cons dE (.cons dE (.cons dE (.cons dE (.cons dE (.cons cK .nil)))))))))) (.cons (aF Q) .nil)))
theorem aS.c (h:aS.f a0 a1=some r):Pt prog 10 [vI a0,vI a1] (vI r):=by
 refine pf func10 h fun R0 F H=>?_
 refine so<|WP.seq<|so<|cf H ?_ ?_ <;> intro H
 ·
  refine WP.skip<|wr 4 0<|go 2<|gr H fun ga H=>nQ Q Q Q (qG ga)<|gq 1 ?_
  cases H.out; exact ek 0
 refine rg 4 0<|go 4<|wr 4 0<|go 2<|gr H fun gb H=>nQ Q Q Q (qG gb)<|gq 1 ?_
 cases H.out; exact ek 0
theorem fa.c (h:fa.f a0=some r):Pt prog 18 [vI a0] (vS r):=by
 refine pf func18 h fun R0 F H=>?_
 refine so<|wr 6 0<|Dv.lit aE ([(⟨#[33,114,58,115,49]⟩:BA),(⟨#[33,113,58,115,50]⟩:BA)]:List BA) (css:=[[vS (⟨#[33,114,58,115,49]⟩:BA)],[vS (⟨#[33,113,58,115,50]⟩:BA)]]) Q T eb W9 c9 z9 Q dc dc Q ⟨(cells_one (ah Q)),⟨(cells_one (ah Q)),T⟩⟩ Q Q Q<|go 1<|el H fun ta haa H=>cl Q (cL 10) Q (aS.c haa)<|gr H fun ga H=>Dv.jA Q T Q Q eb W9 c9 ga.1 ga.2<|mL Q T Q qN Q<|gq 1 ?_
 cases H.out; exact ek 0
theorem nk.c (h:nk.f a0=some r):Pt prog 52 [vI a0] (vS r):=by
 refine pf func52 h fun R0 F H=>?_
 refine so<|wr 6 0<|Dv.lit aE ([(⟨#[115,49]⟩:BA),(⟨#[115,50]⟩:BA),(⟨#[115,51]⟩:BA)]:List BA) (css:=[[vS (⟨#[115,49]⟩:BA)],[vS (⟨#[115,50]⟩:BA)],[vS (⟨#[115,51]⟩:BA)]]) Q T eb W9 c9 z9 Q dc dc Q ⟨(cells_one (ah Q)),⟨(cells_one (ah Q)),⟨(cells_one (ah Q)),T⟩⟩⟩ Q Q Q<|go 1<|el H fun ta haa H=>cl Q (cL 10) Q (aS.c haa)<|gr H fun ga H=>Dv.jA Q T Q Q eb W9 c9 ga.1 ga.2<|mL Q T Q qN Q<|gq 1 ?_
 cases H.out; exact ek 0
theorem fb.c (h:fb.f a0=some r):Pt prog 13 [vI a0] (vS r):=by
 refine pf func13 h fun R0 F H=>?_
 refine so<|wr 3 0<|go 1<|el H fun ta haa H=>cl Q (cL 10) Q (aS.c haa)<|go 1<|wd mX 10 0<|Dv.lit aE ([(⟨#[64,97,58]⟩:BA),(⟨#[64,98,58]⟩:BA),(⟨#[64,99,58]⟩:BA)]:List BA) (css:=[[vS (⟨#[64,97,58]⟩:BA)],[vS (⟨#[64,98,58]⟩:BA)],[vS (⟨#[64,99,58]⟩:BA)]]) Q T eb W9 c9 z9 Q dc dc Q ⟨(cells_one (ah Q)),⟨(cells_one (ah Q)),⟨(cells_one (ah Q)),T⟩⟩⟩ Q Q Q<|go 1<|nQ Q Q Q (n9 dc)<|gr H fun ga H=>Dv.jA Q T Q Q eb W9 c9 ga.1 ga.2<|mL Q T Q qN Q<|go 1<|nQ Q Q Q (qG dc)<|el H fun tc hac H=>cl Q (cL 52) Q (nk.c hac)<|gr H fun gb H=>nQ Q Q Q (iE gb)<|gq 1 ?_
 cases H.out; exact ek 0
theorem iH.c:∀ (k:Nat) {a0:Int} {r:BA} (h:iH.f k a0=some r),Pt prog 117 [vI a0] (vS r)
  | 0,_,_,h=>by cases h
  | k+1,a0,r,h=>by
    rw [iH.f] at h
    refine pb func117 ntmps117 h fun R0 F H=>?_
    refine so<|wr 3 0<|go 1<|nQ Q Q Q (qG dc)<|go 1<|sq H id [0] (fun pa=>[(3,vI pa)]) (fun _=>[]) (fun pa H=>?_) (fun H=>?_)
    rotate_left
    ·
     refine so<|cf H ?_ ?_ <;> intro H
     ·
      refine WP.skip ?_
      have H:=H.out
      exact jn (a0.tmod 10) H
     refine rg 3 0<|gq 3 ?_
     have H:=H.out
     exact jn (av (0-(a0.tmod 10))) H
    refine wr 6 0<|go 2<|Dv.H4 Q T Q W3 W5<|Dv.lit (bG .u8) ([IntKind.u8.wrap (av (48+pa))]:List Int) (css:=[[eq (.int .u8 (IntKind.u8.wrap (av (48+pa))))]]) Q T jy W5 c5 z5 Q dc dc Q ⟨(cells_one (ah Q)),T⟩ Q Q Q<|Dv.KO Q T Q jy W5 W9<|go 1<|WP.seq<|wr 6 0<|gp 3 ?_
    cases cc:decide ((-10)<a0)
    ·
     have H:=H.cf cc
     refine go 3<|WP.cond Q nofun (fun _=>?_)
     refine WP.skip<|wr 6 0<|go 1<|nQ Q Q Q (n9 dc)<|el H fun ta haa H=>cl Q (cL 117) Q (iH.c k haa)<|go 1<|gr H fun ga H=>nQ Q Q Q (iE ga)<|gq 1 ?_
     cases H.out; exact ek 0
    have H:=H.ct cc
    refine go 3<|cf H ?_ ?_ <;> intro H
    ·
     refine WP.skip<|wr 6 0<|go 1<|nQ Q Q Q (n9 dc)<|el H fun tc hac H=>cl Q (cL 117) Q (iH.c k hac)<|go 1<|gr H fun gb H=>nQ Q Q Q (iE gb)<|gq 1 ?_
     cases H.out; exact ek 0
    refine WP.seq<|so<|cf H ?_ ?_ <;> intro H
    ·
     refine WP.skip<|sp ?_
     cases H.out; exact ek 0
    refine wr 3 0<|go 1<|gr H fun gi H=>nQ Q Q Q (iE gi)<|gq 1 ?_
    cases H.out; exact ek 0
theorem dj.c (h:dj.f k a0=some r):Pt prog 50 [vI a0] (vS r):=by
 refine pf func50 h fun R0 F H=>?_
 refine so<|wr 5 0<|go 1<|el H fun ta haa H=>cl Q (cL 10) Q (aS.c haa)<|el H fun tc hac H=>cl Q (cL 117) Q (iH.c _ hac)<|gr H fun ga H=>nQ Q Q Q (iE ga)<|gq 1 ?_
 cases H.out; exact ek 0
theorem bJ.c (h:bJ.f k a0 a1=some r):Pt prog 37 [vS a0,sl dt.K a1] (agg (aQ.enc r)):=by
 refine pf func37 h fun R0 F H=>?_
 refine wr 1 1<|al Q T oz nofun fun ba=>.fin<|wr 4 12<|go 1<|Dv.lI (qs:=[vS a0,eU]) (css:=[[vS a0]]) Q T mu Fl BD Q ⟨(cells_one (ah Q)),T⟩ Q Q<|al Q T oz nofun fun bc=>sy 0 ?_
 refine .fin<|WP.lG H id (fun pa=>[(4,eW ba),(5,eW bc)]) (fun pa=>[aJ bc 113 [vS pa.2.2.1,sl Event.K pa.2.2.2],aJ ba 113 [vS eE,eU]]++F) (fun pa H=>?_) (fun H=>?_)
 ·
  refine wr 2 2<|gl 1 [0]<|sy 1 ?_
  refine .fin ?_
  cases H.out; exact r2 i2 Q (.cons (au Q mu Q ot (ab 1 Q) Q) .nil)
 refine so<|WP.block<|WP.gh (JN (E':=[(0,vS a0),(1,sl dt.K a1),(4,eW ba),(5,eW bc),(6,vI 0)]) (l':=[aJ bc 113 [vS a0,sl Event.K ([]:List Event)],aJ ba 113 [vS eE,eU]]++F) (lL Q cK (lL Q cK (lL Q cK (lL Q cK (lL Q cK Ch))))) (gL (.cons (CL (.cons cK (.cons dE .nil))) (.cons xM .nil)) fun _=>xM)) (fun _ _=>?_)
 refine ws 2 [0,1] 0 ?_
 refine lq (fun j_ (pc:Int×BA×(List Event))=>bJ.l0 k a0 a1 j_ pc.1 pc.2.1 pc.2.2) (0,a0,([]:List Event)) H [0,1,4,5] (fun pc=>[(6,vI pc.1)]) (fun pc=>[(0,aJ bc 113 [vS pc.2.1,sl Event.K pc.2.2])]) ?_
 rintro j_ ⟨xc,xd,xe⟩ H
 rcases j_ with _ | ja
 ·
  exact (aW.no H).elim
 try dsimp only at H
 rw [bJ.l0] at H
 refine WP.seq<|wr 8 0<|go 2<|Dv.eX Q T Q LB<|gp 2 ?_
 cases cc:decide (xc<(a1.length:Int))
 ·
  have H:=H.cf cc
  refine go 3<|WP.cond Q nofun (fun _=>?_)
  refine WP.exit ?_
  have H:=H.out
  exact jn (xc,false,xd,xe) H
 have H:=H.ct cc
 refine go 3<|cf H ?_ ?_ <;> intro H
 ·
  refine WP.exit ?_
  have H:=H.out
  exact jn (xc,decide (xc<9),xd,xe) H
 refine WP.skip<|WP.lG H (fun qh:(Int×Int×Bool×Bool×Bool×BA×(List Event)×(List Bool))×OV=>qh.1) (fun qh=>[(0,vS a0),(1,sl dt.K a1),(4,eW ba),(5,eW bc),(6,vI xc)]) (fun qh=>[aJ bc 113 [vS qh.1.2.2.2.2.2.1,sl Event.K qh.1.2.2.2.2.2.2.1],aJ ba 113 [vS eE,eU],own dp qh.2.1 qh.1.2.2.2.2.2.2.2]++F) (fun qh H=>?_) (fun H=>?_)
 ·
  obtain ⟨pe,va⟩:=qh
  refine rg 3 0<|go 3<|ns 3 [2,0,1] 1 ?_
  exact bk ja (av (xc+1),pe.2.2.2.2.2.1,pe.2.2.2.2.2.2.1) H
 refine WP.block<|wd mX 18 196608<|go 1<|el H fun ta haa H=>cl Q (cL 50) Q (dj.c haa)<|go 3<|gr H fun ga H=>Dv.jA Q T Q Q LB xW Ad ga.1 ga.2<|fr Q T Q HX Q<|mL Q T Q Hm Q<|el H fun tc hac H=>cl Q (cL 13) Q (fb.c hac)<|go 2<|gr H fun gb H=>Dv.jA Q T Q Q LB xW Ad gb.1 gb.2<|fr Q T Q Hi Q<|mL Q T Q Hm Q<|el H fun te had H=>cl Q (cL 10) Q (aS.c had)<|Dv.lI (qs:=[vS ta,vS a0,eU,vS eE,vS tc,vI te]) (css:=[[vS ta],[vS a0],[vS tc],[vI te]]) Q T mZ Jy Ga Q ⟨(cells_one (ah Q)),⟨(cells_one (ah Q)),⟨(cells_one (ah Q)),⟨(cells_one (ah Q)),T⟩⟩⟩⟩ Q Q<|al Q T zO pD fun bd=>sv 0 ?_
 refine .fin<|wr 2 1<|gr H fun gi H=>?_
 obtain ⟨ti623,ti623a,ti623b,ti623c,ti623d⟩:=zo
 refine Dv.G8 (Kd:=dp) (false:Bool) Q T Q Q sW ti623a ti623b ti623c ti623d Q dc Q gi nofun (fun vb=>?_)
 refine go 1<|WP.lG H id (fun pg=>[(0,vS a0),(1,sl dt.K a1),(4,eW ba),(5,eW bc),(6,vI xc),(7,eW bd),(8,eq vb.1)]) (fun pg=>[aJ bd 110 [vS ta,vS a0,eU,vS eE,vS tc,vI te],aJ bc 113 [vS xd,sl Event.K xe],aJ ba 113 [vS eE,eU],own dp vb.1 pg.2.2]++F) (fun pg H=>?_) (fun H=>?_)
 rotate_left
 ·
  refine so<|WP.block<|ws 4 [1,2,3,0] 0 ?_
  refine lq (fun j_ (ph:Int×(List Bool))=>bJ.l2 k a1 xc j_ ph.1 ph.2) (0,List.replicate (9:Int).toNat (false:Bool)) H [0,1,4,5,6,7,8] (fun ph=>[(9,vI ph.1)]) (fun ph=>[(3,own dp vb.1 ph.2)]) ?_
  rintro j_ ⟨xf,xg⟩ H
  rcases j_ with _ | jc
  ·
   exact (aW.no H).elim
  try dsimp only at H
  rw [bJ.l2] at H
  refine WP.seq<|wr 16 0<|go 3<|gr H fun gj H=>Dv.jA Q T Q Q LB xW Ad gj.1 gj.2<|fr Q T Q Dg Q<|mL Q T Q sc38 Q<|Dv.eX Q T Q ry<|gp 2 ?_
  cases cg:decide (xf<(((dt.K.at a1 xc).ag).length:Int))
  ·
   have H:=H.cf cg
   refine go 7<|WP.cond Q nofun (fun _=>?_)
   refine WP.exit ?_
   have H:=H.out
   exact jn (xf,false,xg) H
  have H:=H.ct cg
  refine gp 4 ?_
  cases ci:decide (xf<3)
  ·
   have H:=H.cf ci
   refine go 3<|WP.cond Q nofun (fun _=>?_)
   refine WP.exit ?_
   have H:=H.out
   exact jn (xf,false,xg) H
  have H:=H.ct ci
  refine go 3<|cf H ?_ ?_ <;> intro H
  ·
   refine WP.exit ?_
   have H:=H.out
   exact jn (xf,decide (0<xc),xg) H
  refine WP.skip<|WP.seq<|WP.block<|rg 13 4096<|go 3<|gr H fun gk H=>Dv.jA Q T Q Q LB xW Ad gk.1 gk.2<|fr Q T Q Dg Q<|mL Q T Q sc38 Q<|go 1<|gr H fun gm H=>Dv.jA Q T Q Q ry W3 c3 gm.1 gm.2<|mL Q T Q Hm Q<|go 1<|el H fun tg hae H=>cl Q (cL 10) Q (aS.c hae)<|gr H fun gn H=>?_
  have haf:tg.toNat<xg.length:=bC gn
  exact Dv.kQ Q T Q (ab 3 Q) Q sW W4 c4 gn.1 gn.2<|Dv.IZ (j:=tg.toNat) (f:=0) (jj:=3) true Q T Q Q (cells_one (ah Q)) W4 c4 Q Q haf (Nat.le_of_ble_eq_true Q) Q nofun<|.fin<|rg 3 0<|go 3<|bk jc (av (xf+1),xg.set tg.toNat true) H
 refine WP.lG H (fun qi:(Int×Bool×(List BA))×OV=>qi.1) (fun qi=>[(0,vS a0),(1,sl dt.K a1),(4,eW ba),(5,eW bc),(6,vI xc),(7,eW bd)]) (fun qi=>[aJ bd 110 [vS ta,vS a0,eq qi.2.1,vS eE,vS tc,vI te],aJ bc 113 [vS xd,sl Event.K xe],aJ ba 113 [vS eE,eU],own dp vb.1 pg.2.2,own aE qi.2.1 qi.1.2.2]++F) (fun qi H=>?_) (fun H=>?_)
 rotate_left
 ·
  refine so<|WP.block<|wg (eK aE none) fun _ _=>?_
  refine ws 5 [1,2,3,4,0] 0 ?_
  refine lq (fun j_ (pi:Int×(List BA)×OV)=>bJ.l1 k xc pg j_ pi.1 pi.2.1) (0,([]:List BA),lM) H [0,1,4,5,6,7,8] (fun pi=>[(10,vI pi.1)]) (fun pi=>[(0,aJ bd 110 [vS ta,vS a0,eq pi.2.2.1,vS eE,vS tc,vI te]),(4,own aE pi.2.2.1 pi.2.1)]) ?_
  rintro j_ ⟨xi,xj,vd⟩ H
  rcases j_ with _ | jd
  ·
   exact (aW.no H).elim
  try dsimp only at H
  rw [bJ.l1] at H
  refine WP.seq<|so<|cf H ?_ ?_ <;> intro H
  ·
   refine WP.exit ?_
   have H:=H.out
   exact jn ((xi,decide (xi<xc),xj),vd) H
  refine WP.skip<|WP.seq<|WP.block<|wr 4 0<|go 2<|gr H fun gu H=>?_
  have hag:xi.toNat<pg.2.2.length:=bC gu
  refine Dv.kQ Q T Q (ab 3 Q) Q sW W4 c4 gu.1 gu.2<|Dv.oZ (j:=xi.toNat) (f:=0) (p:=vB (pg.2.2.getD xi.toNat default)) Q T Q (ab 3 Q) hag W4 Q Q<|.fin<|cf H ?_ ?_ <;> intro H
  ·
   exact WP.skip<|rg 3 0<|go 3<|bk jd (av (xi+1),xj,vd) H
  refine dg mX 8 160<|gl 3 [0]<|el H fun tj hah H=>cl Q (cL 50) Q (dj.c hah)<|Dv.lit aE ([tj]:List BA) (css:=[[vS tj]]) Q T eb W9 c9 z9 Q dc dc Q ⟨(cells_one (ah Q)),T⟩ Q Q Q<|gr H fun gv H=>ap aE 4 ([tj]:List BA) bQ eb (.inr ⟨_,eb⟩) zE gv pB fun ve=>?_
  refine go 1<|sx 0 Q T Q Q (cells_one bL) Jb Q Q Q pB ?_
  exact .fin<|rg 3 0<|go 3<|bk jd (av (xi+1),xj++([tj]:List BA),ve) H
 obtain ⟨pj,vh⟩:=qi
 refine WP.seq<|wr 7 0<|lx 4 [0] ?_
 cases cj:(te==0)
 ·
  have H:=H.cf cj
  refine go 3<|WP.cond Q nofun (fun _=>?_)
  refine WP.skip<|wr 9 192<|gl 2 [1,0]<|Dv.gh (oi (E':=[(0,vS a0),(1,sl dt.K a1),(4,eW ba),(5,eW bc),(6,vI xc),(7,eW bd),(95,vB false),(129,agg [vS xd,sl Event.K xe]),(130,agg [vS ta,vS a0,sl aE pj.2.2,vS eE,vS tc,vI te])]) (l':=[aJ bd 110 [vS ta,vS a0,sl aE pj.2.2,vS eE,vS tc,vI te],aJ bc 113 [vS xd,sl Event.K xe],aJ ba 113 [vS eE,eU],own dp vb.1 pg.2.2]++F) 4 Q (ar Q ay (ar Q ay (ar Q ay (ar Q ay (ar Q ay (ar Q ay (ar Q ay (ar Q ay (ar Q (sV (.cons ay (.cons ay (.cons kJ (.cons ay (.cons ay (.cons ay .nil))))))) jG))))))))) (gL (.cons (pA (.cons ay (.cons ay (.cons kJ (.cons ay (.cons ay (.cons ay .nil))))))) (.cons bU (.cons bU (.cons bU .nil)))) fun _=>bU)) (fun _ _=>?_)
  refine el H fun tm hai H=>cl Q (cL 91) Q (dO.c hai)<|go 1<|eh Q T Q Q<|eh Q T Q Q<|al Q T oz nofun fun be=>sy 0 ?_
  refine go 1<|rg 2 2<|gl 1 [0]<|sy 2 ?_
  refine .fin ?_
  have H:=H.out
  refine ns 5 [0,1,2,3,4] 2 ?_
  exact jn ((pg.1,pj.1,pg.2.1,pj.2.1,false,tm.1.aa,tm.1.fL,pg.2.2),vb) H
 have H:=H.ct cj
 refine go 3<|cf H ?_ ?_ <;> intro H
 ·
  refine WP.skip<|wr 9 192<|gl 2 [1,0]<|Dv.gh (oi (E':=[(0,vS a0),(1,sl dt.K a1),(4,eW ba),(5,eW bc),(6,vI xc),(7,eW bd),(95,vB (decide (0<xc))),(129,agg [vS xd,sl Event.K xe]),(130,agg [vS ta,vS a0,sl aE pj.2.2,vS eE,vS tc,vI te])]) (l':=[aJ bd 110 [vS ta,vS a0,sl aE pj.2.2,vS eE,vS tc,vI te],aJ bc 113 [vS xd,sl Event.K xe],aJ ba 113 [vS eE,eU],own dp vb.1 pg.2.2]++F) 4 Q (ar Q ay (ar Q ay (ar Q ay (ar Q ay (ar Q ay (ar Q ay (ar Q ay (ar Q ay (ar Q (sV (.cons ay (.cons ay (.cons kJ (.cons ay (.cons ay (.cons ay .nil))))))) jG))))))))) (gL (.cons (pA (.cons ay (.cons ay (.cons kJ (.cons ay (.cons ay (.cons ay .nil))))))) (.cons bU (.cons bU (.cons bU .nil)))) fun _=>bU)) (fun _ _=>?_)
  refine el H fun tn haj H=>cl Q (cL 91) Q (dO.c haj)<|go 1<|eh Q T Q Q<|eh Q T Q Q<|al Q T oz nofun fun bg=>sy 0 ?_
  refine go 1<|rg 2 2<|gl 1 [0]<|sy 2 ?_
  refine .fin ?_
  have H:=H.out
  refine ns 5 [0,1,2,3,4] 2 ?_
  exact jn ((pg.1,pj.1,pg.2.1,pj.2.1,decide (0<xc),tn.1.aa,tn.1.fL,pg.2.2),vb) H
 refine wr 9 0<|go 2<|gr H fun gw H=>Dv.jA Q T Q Q LB xW Ad gw.1 gw.2<|fr Q T Q IX Q<|mL Q T Q Hm Q<|go 2<|el H fun tp hak H=>cl Q (cL 10) Q (aS.c hak)<|go 1<|wr 21 0<|gp 4 ?_
 cases ck:decide (tp<xc)
 ·
  have H:=H.cf ck
  refine go 17<|WP.cond Q nofun (fun _=>?_)
  refine WP.skip<|wr 9 192<|gl 2 [1,0]<|Dv.gh (oi (E':=[(0,vS a0),(1,sl dt.K a1),(4,eW ba),(5,eW bc),(6,vI xc),(7,eW bd),(11,vI tp),(95,vB (decide (0<xc))),(124,vB false),(129,agg [vS xd,sl Event.K xe]),(130,agg [vS ta,vS a0,sl aE pj.2.2,vS eE,vS tc,vI te])]) (l':=[aJ bd 110 [vS ta,vS a0,sl aE pj.2.2,vS eE,vS tc,vI te],aJ bc 113 [vS xd,sl Event.K xe],aJ ba 113 [vS eE,eU],own dp vb.1 pg.2.2]++F) 4 Q (ar Q ay (ar Q ay (ar Q ay (ar Q ay (ar Q ay (ar Q ay (ar Q ay (ar Q ay (ar Q ay (ar Q ay (ar Q (sV (.cons ay (.cons ay (.cons kJ (.cons ay (.cons ay (.cons ay .nil))))))) jG))))))))))) (gL (.cons (pA (.cons ay (.cons ay (.cons kJ (.cons ay (.cons ay (.cons ay .nil))))))) (.cons bU (.cons bU (.cons bU .nil)))) fun _=>bU)) (fun _ _=>?_)
  refine el H fun tq ham H=>cl Q (cL 91) Q (dO.c ham)<|go 1<|eh Q T Q Q<|eh Q T Q Q<|al Q T oz nofun fun bh=>sy 0 ?_
  refine go 1<|rg 2 2<|gl 1 [0]<|sy 2 ?_
  refine .fin ?_
  have H:=H.out
  refine ns 5 [0,1,2,3,4] 2 ?_
  exact jn ((pg.1,pj.1,pg.2.1,pj.2.1,decide (0<xc),tq.1.aa,tq.1.fL,pg.2.2),vb) H
 have H:=H.ct ck
 refine gl 3 [1]<|gr H fun gy H=>Dv.jA Q (gg Q) Q Q rR mZ pG gy.1 gy.2<|fr Q (gg Q) Q CS Q<|mL Q (gg Q) Q Hm Q<|gp 3 ?_
 cases cn:(((Event.K.at xe tp).bO)==0)
 ·
  have H:=H.cf cn
  refine go 8<|WP.cond Q nofun (fun _=>?_)
  refine WP.skip<|wr 9 192<|gl 2 [1,0]<|Dv.gh (oi (E':=[(0,vS a0),(1,sl dt.K a1),(4,eW ba),(5,eW bc),(6,vI xc),(7,eW bd),(11,vI tp),(95,vB (decide (0<xc))),(124,vB false),(129,agg [vS xd,sl Event.K xe]),(130,agg [vS ta,vS a0,sl aE pj.2.2,vS eE,vS tc,vI te])]) (l':=[aJ bd 110 [vS ta,vS a0,sl aE pj.2.2,vS eE,vS tc,vI te],aJ bc 113 [vS xd,sl Event.K xe],aJ ba 113 [vS eE,eU],own dp vb.1 pg.2.2]++F) 4 Q (ar Q ay (ar Q ay (ar Q ay (ar Q ay (ar Q ay (ar Q ay (ar Q ay (ar Q ay (ar Q ay (ar Q ay (ar Q (sV (.cons ay (.cons ay (.cons kJ (.cons ay (.cons ay (.cons ay .nil))))))) jG))))))))))) (gL (.cons (pA (.cons ay (.cons ay (.cons kJ (.cons ay (.cons ay (.cons ay .nil))))))) (.cons bU (.cons bU (.cons bU .nil)))) fun _=>bU)) (fun _ _=>?_)
  refine el H fun tu han H=>cl Q (cL 91) Q (dO.c han)<|go 1<|eh Q T Q Q<|eh Q T Q Q<|al Q T oz nofun fun bi=>sy 0 ?_
  refine go 1<|rg 2 2<|gl 1 [0]<|sy 2 ?_
  refine .fin ?_
  have H:=H.out
  refine ns 5 [0,1,2,3,4] 2 ?_
  exact jn ((pg.1,pj.1,pg.2.1,pj.2.1,decide (0<xc),tu.1.aa,tu.1.fL,pg.2.2),vb) H
 have H:=H.ct cn
 refine gl 3 [1]<|gr H fun gz H=>Dv.jA Q (gg Q) Q Q rR mZ pG gz.1 gz.2<|fr Q (gg Q) Q xQ Q<|mL Q (gg Q) Q qN Q<|go 2<|cf H ?_ ?_ <;> intro H
 ·
  refine WP.skip<|wr 9 192<|gl 2 [1,0]<|Dv.gh (oi (E':=[(0,vS a0),(1,sl dt.K a1),(4,eW ba),(5,eW bc),(6,vI xc),(7,eW bd),(11,vI tp),(95,vB (decide (0<xc))),(124,vB (decide (((Event.K.at xe tp).ae)=eE))),(129,agg [vS xd,sl Event.K xe]),(130,agg [vS ta,vS a0,sl aE pj.2.2,vS eE,vS tc,vI te])]) (l':=[aJ bd 110 [vS ta,vS a0,sl aE pj.2.2,vS eE,vS tc,vI te],aJ bc 113 [vS xd,sl Event.K xe],aJ ba 113 [vS eE,eU],own dp vb.1 pg.2.2]++F) 4 Q (ar Q ay (ar Q ay (ar Q ay (ar Q ay (ar Q ay (ar Q ay (ar Q ay (ar Q ay (ar Q ay (ar Q ay (ar Q (sV (.cons ay (.cons ay (.cons kJ (.cons ay (.cons ay (.cons ay .nil))))))) jG))))))))))) (gL (.cons (pA (.cons ay (.cons ay (.cons kJ (.cons ay (.cons ay (.cons ay .nil))))))) (.cons bU (.cons bU (.cons bU .nil)))) fun _=>bU)) (fun _ _=>?_)
  refine el H fun tw hao H=>cl Q (cL 91) Q (dO.c hao)<|go 1<|eh Q T Q Q<|eh Q T Q Q<|al Q T oz nofun fun bj=>sy 0 ?_
  refine go 1<|rg 2 2<|gl 1 [0]<|sy 2 ?_
  refine .fin ?_
  have H:=H.out
  refine ns 5 [0,1,2,3,4] 2 ?_
  exact jn ((pg.1,pj.1,pg.2.1,pj.2.1,decide (0<xc),tw.1.aa,tw.1.fL,pg.2.2),vb) H
 refine rg 4 8<|go 1<|el H fun tx hap H=>cl Q (cL 50) Q (dj.c hap)<|go 1<|sy 0 ?_
 refine .fin<|wr 9 192<|gl 2 [1,0]<|Dv.gh (oi (E':=[(0,vS a0),(1,sl dt.K a1),(4,eW ba),(5,eW bc),(6,vI xc),(7,eW bd),(11,vI tp),(95,vB (decide (0<xc))),(124,vB (decide (((Event.K.at xe tp).ae)=eE))),(129,agg [vS xd,sl Event.K xe]),(130,agg [vS ta,vS a0,sl aE pj.2.2,vS tx,vS tc,vI te])]) (l':=[aJ bd 110 [vS ta,vS a0,sl aE pj.2.2,vS tx,vS tc,vI te],aJ bc 113 [vS xd,sl Event.K xe],aJ ba 113 [vS eE,eU],own dp vb.1 pg.2.2]++F) 4 Q (ar Q ay (ar Q ay (ar Q ay (ar Q ay (ar Q ay (ar Q ay (ar Q ay (ar Q ay (ar Q ay (ar Q ay (ar Q (sV (.cons ay (.cons ay (.cons kJ (.cons ay (.cons ay (.cons ay .nil))))))) jG))))))))))) (gL (.cons (pA (.cons ay (.cons ay (.cons kJ (.cons ay (.cons ay (.cons ay .nil))))))) (.cons bU (.cons bU (.cons bU .nil)))) fun _=>bU)) (fun _ _=>?_)
 refine el H fun tz haq H=>cl Q (cL 91) Q (dO.c haq)<|go 1<|eh Q T Q Q<|eh Q T Q Q<|al Q T oz nofun fun bl=>sy 0 ?_
 refine go 1<|rg 2 2<|gl 1 [0]<|sy 2 ?_
 refine .fin ?_
 have H:=H.out
 refine ns 5 [0,1,2,3,4] 2 ?_
 exact jn ((pg.1,pj.1,pg.2.1,pj.2.1,decide (0<xc),tz.1.aa,tz.1.fL,pg.2.2),vb) H
theorem oM.c (h:oM.f k a0 a1=some r):Tr prog 9 [sl dt.K a0,sl dt.K a1] [] (γ:=OV) (fun _=>True) (fun g=>eq g.1) (fun g=>[own Event.K g.1 r]):=by
 refine tf func9 h fun R0 F H=>?_
 refine so<|so<|wr 7 32<|go 1<|el H fun ta haa H=>cl Q (cL 18) Q (fa.c haa)<|go 1<|el H fun tc hac H=>cl Q (cL 37) Q (bJ.c hac)<|Dv.fld Q T Q mu Q rR Q Q<|vg (eK Event.K none) fun _ _=>?_
 refine gr H fun ga H=>ap Event.K 0 tc.fL bQ rR (.inr ⟨_,rR⟩) vP ga nofun fun va=>?_
 refine go 1<|wr 7 32<|go 1<|el H fun te had H=>cl Q (cL 18) Q (fa.c had)<|go 1<|el H fun tg hae H=>cl Q (cL 37) Q (bJ.c hae)<|Dv.fld Q T Q mu Q rR Q Q<|gr H fun gb H=>ap Event.K 0 tg.fL bQ rR (.inr ⟨_,rR⟩) vP gb nofun fun vb=>?_
 refine gq 1 ?_
 cases H.out; exact et vb 1 [0] 0
theorem gG.c (h:gG.f k a0 a1=some r):Pt prog 23 [sl MK.K a0,agg (bB.enc a1)] (vI r):=by
 refine pf func23 h fun R0 F H=>?_
 refine wr 2 1<|Dv.box Q T Q cA nofun fun ba=>go 1<|sr H id [] (fun _=>[]) (fun _=>[]) (fun pa H=>?_) (fun H=>?_)
 ·
  refine sp ?_
  cases H.out; exact ek 1
 refine so<|WP.block<|ws 1 [0] 0 ?_
 refine lq (fun j_ (pc:Int)=>gG.l0 k a0 a1 j_ pc) 0 H [0,3] (fun pc=>[(5,vI pc)]) (fun _=>[]) ?_
 rintro j_ xc H
 rcases j_ with _ | ja
 ·
  exact (aW.no H).elim
 try dsimp only at H
 rw [gG.l0] at H
 refine WP.seq<|wr 4 0<|go 2<|Dv.eX Q T Q tH<|go 1<|cf H ?_ ?_ <;> intro H
 ·
  refine WP.exit ?_
  have H:=H.out
  exact jn (xc,decide (xc<(a0.length:Int))) H
 refine WP.skip<|WP.seq<|WP.block<|wd mX 7 0<|go 2<|gr H fun ga H=>Dv.jA Q T Q Q tH A0 G4 ga.1 ga.2<|fr Q T Q Fy Q<|ll Q T Q sg79 Q<|gl 1 [0]<|Dv.eqs [.string (((MK.K.at a0 xc).fK).aa),.string (((MK.K.at a0 xc).fK).ai),.string (((MK.K.at a0 xc).fK).ae),.bool (((MK.K.at a0 xc).fK).ao)] [.string a1.aa,.string a1.ai,.string a1.ae,.bool a1.ao] Q T Q Q Q Q eg79 (fun _=>kn 2 dc (fun _=>JC ((MK.K.at a0 xc).fK) a1))<|.fin<|cf H ?_ ?_ <;> intro H
 ·
  exact WP.skip<|rg 3 0<|go 3<|bk ja (av (xc+1)) H
 refine sp ?_
 have H:=H.fU
 cases H.out; exact ek 1
theorem jJ.c (h:jJ.f a0 a1=some r):Pt prog 24 [agg (Pos.enc a0),agg (Pos.enc a1)] (vB r):=by
 refine pf func24 h fun R0 F H=>?_
 refine wr 3 3<|Dv.box Q T Q cA nofun fun ba=>Dv.box Q T Q cA nofun fun bc=>go 1<|wr 20 0<|lx 6 [1,0] ?_
 cases cc:decide (a0.bp<a1.bp)
 rotate_left
 ·
  have H:=H.ct cc
  refine gq 14 ?_
  cases H.out; exact ek 2
 have H:=H.cf cc
 refine lx 6 [1,0] ?_
 cases cg:(a0.bp==a1.bp)
 ·
  have H:=H.cf cg
  refine gq 8 ?_
  cases H.out; exact ek 2
 have H:=H.ct cg
 refine Hf 8 [1,0] ?_
 cases H.out; exact ek 2
theorem mg.c (h:mg.f a0 a1=some r):Pt prog 75 [agg (bB.enc a0),agg (bB.enc a1)] (vB r):=by
 refine pf func75 h fun R0 F H=>?_
 refine wr 3 3<|Dv.box Q T Q cA nofun fun ba=>Dv.box Q T Q cA nofun fun bc=>go 1<|WP.seq<|sL [1,0]<|ce H ?_ ?_ <;> intro H
 ·
  refine spj [1,0] ?_
  cases H.out; exact ek 2
 refine WP.skip<|WP.seq<|sL [1,0]<|ce H ?_ ?_ <;> intro H
 ·
  refine spj [1,0] ?_
  cases H.out; exact ek 2
 refine WP.skip<|WP.seq<|sL [1,0]<|ce H ?_ ?_ <;> intro H
 ·
  refine spj [1,0] ?_
  cases H.out; exact ek 2
 refine WP.skip<|wr 8 0<|lx 4 [1] ?_
 cases cc:!a0.ao
 ·
  have H:=H.cf cc
  refine gq 4 ?_
  cases H.out; exact ek 2
 have H:=H.ct cc
 refine Hf 4 [0] ?_
 cases H.out; exact ek 2
theorem jD.c (h:jD.f k a0 a1 a2=some r):Pt prog 25 [sl MK.K a0,agg (bB.enc a1),agg (Pos.enc a2)] (lr [sl MK.K r.1,vB r.2]):=by
 refine pf func25 h fun R0 F H=>?_
 refine wr 4 3<|Dv.box Q T Q cA nofun fun ba=>Dv.box Q T Q cA nofun fun bc=>go 2<|wr 4 0<|gl 2 [1]<|el H fun ta haa H=>cl Q (cL 23) Q (gG.c haa)<|go 1<|so<|WP.seq<|so<|ce H ?_ ?_ <;> intro H
 ·
  refine wd mX 8 0<|go 2<|gr H fun ga H=>Dv.jA Q T Q Q tH A0 G4 ga.1 ga.2<|fr Q T Q GK Q<|ll Q T Q sg81 Q<|gl 1 [0]<|el H fun tc hac H=>cl Q (cL 24) Q (jJ.c hac)<|go 1<|WP.seq<|so<|ce H ?_ ?_ <;> intro H
  ·
   refine sp ?_
   cases H.out; exact ek 2
  refine WP.skip<|wr 4 4<|go 2<|vg (eK MK.K none) fun _ _=>?_
  refine gr H fun gb H=>ap MK.K 0 a0 bQ tH (.inr ⟨_,tH⟩) Ac gb nofun fun va=>?_
  refine go 1<|wr 6 32<|gl 3 [1]<|gr H fun gi H=>?_
  have had:ta.toNat<(([]:List MK)++a0).length:=bC gi
  refine Dv.kQ Q T Q (ab 0 Q) Q tH A0 G4 gi.1 gi.2<|fw Q T Q GK<|Dv.IZ (j:=ta.toNat) (f:=4) (jj:=0) (⟨((([]:List MK)++a0).getD ta.toNat default).fK,a2⟩:MK) Q T Q Q (aZ (Pos.K.one _)) tR xR Q Q had (Nat.le_of_ble_eq_true Q) Q nofun<|.fin<|so<|fz 0 [6,7] [] ?_
  cases H.out; exact ek 2
 refine WP.skip<|so<|sq H id [0,4,5,9] (fun pa=>[(11,vI pa.1)]) (fun _=>[]) (fun pa H=>?_) (fun H=>?_)
 rotate_left
 ·
  refine WP.block<|ws 2 [0,1] 0 ?_
  refine lq (fun j_ (pc:Int)=>jD.l0 k a0 a1 j_ pc) 0 H [0,4,5,9] (fun pc=>[(11,vI pc)]) (fun _=>[]) ?_
  rintro j_ xc H
  rcases j_ with _ | ja
  ·
   exact (aW.no H).elim
  try dsimp only at H
  rw [jD.l0] at H
  refine WP.seq<|wd mX 13 0<|go 2<|Dv.eX Q T Q tH<|gp 2 ?_
  cases cc:decide (xc<(a0.length:Int))
  ·
   have H:=H.cf cc
   refine go 8<|WP.cond Q nofun (fun _=>?_)
   refine WP.exit ?_
   have H:=H.out
   exact jn (xc,false) H
  have H:=H.ct cc
  refine go 2<|gr H fun gj H=>Dv.jA Q (gg Q) Q Q tH A0 G4 gj.1 gj.2<|fr Q (gg Q) Q Fy Q<|ll Q (gg Q) Q sg79 Q<|gl 1 [1]<|el H fun te hae H=>Dv.call Q (gg Q) (cL 75) Q (mg.c hae)<|go 1<|cf H ?_ ?_ <;> intro H
  ·
   refine WP.exit ?_
   have H:=H.out
   exact jn (xc,te) H
  exact WP.skip<|WP.block<|rg 3 0<|go 3<|bk ja (av (xc+1)) H
 refine wr 6 16<|go 3<|gr H fun gk H=>Dv.sls Q T Q tH A0 G4 dG (ff Q gk.1) gk.2.1 gk.2.2<|vg (eK MK.K none) fun _ _=>?_
 refine gr H fun gm H=>ap MK.K 0 ((a0.take pa.1.toNat).drop 0) bQ tH (.inr ⟨_,tH⟩) Ac gm nofun fun vb=>?_
 refine go 1<|wr 7 32<|gl 3 [2,1]<|Dv.lI (qs:=[vS a1.aa,vS a1.ai,vS a1.ae,vB a1.ao,vI a2.bp,vS a2.bS]) (css:=[bB.enc a1,Pos.enc a2]) Q T A0 pl83 z83 Q ⟨(aZ (bB.K.one _)),⟨(aZ (Pos.K.one _)),T⟩⟩ Q Q<|Dv.lit MK.K ([(⟨a1,a2⟩:MK)]:List MK) (css:=[[vS a1.aa,vS a1.ai,vS a1.ae,vB a1.ao,vI a2.bp,vS a2.bS]]) Q T tH A0 G4 z83 Q dc dc Q ⟨(aZ (aj (ah Q) (aj (ah Q) (aj (ah Q) (aj (ah Q) (aj (ah Q) (aj (ah Q) bX))))))),T⟩ Q Q Q<|gr H fun gn H=>ap MK.K 0 ([(⟨a1,a2⟩:MK)]:List MK) bQ tH (.inr ⟨_,tH⟩) Ac gn nofun fun vd=>?_
 refine go 1<|wr 7 16<|go 3<|gr H fun gu H=>Dv.sls Q T Q tH A0 G4 (ff Q gu.1) dG gu.2.1 gu.2.2<|gr H fun gv H=>ap MK.K 0 ((a0.take a0.length).drop pa.1.toNat) bQ tH (.inr ⟨_,tH⟩) Ac gv nofun fun ve=>?_
 refine go 2<|fz 0 [6,7] [] ?_
 cases H.out; exact ek 2
theorem qx.c (h:qx.f a0=some r):Pt prog 40 [agg (ak.enc a0)] (agg (bB.enc r)):=by
 refine pf func40 h fun R0 F H=>?_
 refine wr 2 3<|Dv.box Q T Q cA nofun fun ba=>al Q T zc79 nofun fun bc=>.fin<|wr 10 512<|gl 8 [1,1,1,1]<|Dv.lI (qs:=[vS a0.aa,vS a0.ai,vS a0.ae,vB a0.ao]) (css:=[[vS a0.aa],[vS a0.ai],[vS a0.ae],[vB a0.ao]]) Q T Lc pl79 z79 Q ⟨(cells_one (ah Q)),⟨(cells_one (ah Q)),⟨(cells_one (ah Q)),⟨(cells_one (ah Q)),T⟩⟩⟩⟩ Q Q<|sy 0 ?_
 refine .fin ?_
 cases H.out; exact r2 i2 Q (.cons (au Q Lc Q JZ (ab 0 Q) Q) .nil)
theorem mi.c (h:mi.f k a0=some r):Pt prog 151 [vS a0] (vB r):=by
 refine pf func151 h fun R0 F H=>?_
 refine so<|wr 3 0<|go 1<|el H fun ta haa H=>cl Q (cL 150) Q (bV.c haa)<|go 1<|wr 10 0<|gp 3 ?_
 cases cc:decide (a0=eE)
 rotate_left
 ·
  have H:=H.ct cc
  refine gq 7 ?_
  cases H.out; exact ek 0
 have H:=H.cf cc
 refine gp 4 ?_
 cases cg:decide (a0=(⟨#[109,97,105,110]⟩:BA))
 rotate_left
 ·
  have H:=H.ct cg
  refine gq 3 ?_
  cases H.out; exact ek 0
 have H:=H.cf cg
 refine gq 3 ?_
 cases H.out; exact ek 0
theorem fY.c (h:fY.f k a0=some r):Pt prog 92 [agg (ak.enc a0)] (vB r):=by
 refine pf func92 h fun R0 F H=>?_
 refine wr 2 1<|Dv.box Q T Q cA nofun fun ba=>go 1<|wr 4 0<|gl 2 [0]<|el H fun ta haa H=>cl Q (cL 149) Q (iy.c haa)<|go 1<|wr 4 0<|gl 2 [0]<|el H fun tc hac H=>cl Q (cL 149) Q (iy.c hac)<|go 1<|wr 4 0<|gl 2 [0]<|el H fun te had H=>cl Q (cL 150) Q (bV.c had)<|go 1<|wr 4 0<|gl 2 [0]<|el H fun tg hae H=>cl Q (cL 151) Q (mi.c hae)<|go 1<|WP.seq<|wr 22 0<|gp 3 ?_
 cases cc:!ta
 rotate_left
 ·
  have H:=H.ct cc
  refine go 19<|WP.cond Q (fun _=>?_) nofun
  refine sp ?_
  cases H.out; exact ek 1
 have H:=H.cf cc
 refine lx 5 [0] ?_
 cases cg:decide (a0.aT<0)
 rotate_left
 ·
  have H:=H.ct cg
  refine go 14<|WP.cond Q (fun _=>?_) nofun
  refine sp ?_
  cases H.out; exact ek 1
 have H:=H.cf cg
 refine lx 5 [0] ?_
 cases ci:decide (1099511627776<a0.aT)
 rotate_left
 ·
  have H:=H.ct ci
  refine go 9<|WP.cond Q (fun _=>?_) nofun
  refine sp ?_
  cases H.out; exact ek 1
 have H:=H.cf ci
 refine lx 5 [0] ?_
 cases cj:decide (a0.bf<0)
 rotate_left
 ·
  have H:=H.ct cj
  refine go 4<|WP.cond Q (fun _=>?_) nofun
  refine sp ?_
  cases H.out; exact ek 1
 have H:=H.cf cj
 refine gl 4 [0]<|ce H ?_ ?_ <;> intro H
 ·
  refine sp ?_
  cases H.out; exact ek 1
 refine WP.skip<|WP.seq<|sL [0]<|WP.block<|so<|ce H ?_ ?_ <;> intro H
 ·
  refine wr 23 0<|gp 2 ?_
  cases ck:tc
  ·
   have H:=H.cf ck
   refine gq 21 ?_
   cases H.out; exact ek 1
  have H:=H.ct ck
  refine gp 3 ?_
  cases cn:te
  ·
   have H:=H.cf cn
   refine gq 18 ?_
   cases H.out; exact ek 1
  have H:=H.ct cn
  refine gp 3 ?_
  cases co:tg
  ·
   have H:=H.cf co
   refine gq 15 ?_
   cases H.out; exact ek 1
  have H:=H.ct co
  refine lx 5 [0] ?_
  cases cp:!a0.j8
  ·
   have H:=H.cf cp
   refine gq 10 ?_
   cases H.out; exact ek 1
  have H:=H.ct cp
  refine lx 5 [0] ?_
  cases cq:(a0.b7==0)
  ·
   have H:=H.cf cq
   refine gq 5 ?_
   cases H.out; exact ek 1
  have H:=H.ct cq
  refine Hf 5 [0] ?_
  cases H.out; exact ek 1
 refine so<|cf H ?_ ?_ <;> intro H
 ·
  refine so<|cf H ?_ ?_ <;> intro H
  ·
   refine WP.skip<|sp ?_
   cases H.out; exact ek 1
  refine wr 39 0<|lx 4 [0] ?_
  cases cr:decide (a0.aa=eE)
  ·
   have H:=H.cf cr
   refine gq 35 ?_
   cases H.out; exact ek 1
  have H:=H.ct cr
  refine lx 5 [0] ?_
  cases cu:decide (a0.bE=eE)
  ·
   have H:=H.cf cu
   refine gq 30 ?_
   cases H.out; exact ek 1
  have H:=H.ct cu
  refine lx 5 [0] ?_
  cases cw:decide (a0.ae=eE)
  ·
   have H:=H.cf cw
   refine gq 25 ?_
   cases H.out; exact ek 1
  have H:=H.ct cw
  refine lx 5 [0] ?_
  cases cy:!a0.j8
  ·
   have H:=H.cf cy
   refine gq 20 ?_
   cases H.out; exact ek 1
  have H:=H.ct cy
  refine lx 5 [0] ?_
  cases cz:(a0.b7==0)
  ·
   have H:=H.cf cz
   refine gq 15 ?_
   cases H.out; exact ek 1
  have H:=H.ct cz
  refine lx 5 [0] ?_
  cases caa:!a0.ao
  ·
   have H:=H.cf caa
   refine gq 10 ?_
   cases H.out; exact ek 1
  have H:=H.ct caa
  refine lx 5 [0] ?_
  cases cab:decide (0≤a0.aM)
  ·
   have H:=H.cf cab
   refine gq 5 ?_
   cases H.out; exact ek 1
  have H:=H.ct cab
  refine Hf 5 [0] ?_
  cases H.out; exact ek 1
 refine wr 23 0<|lx 3 [0] ?_
 cases cac:a0.j8
 ·
  have H:=H.cf cac
  refine lx 14 [0] ?_
  cases cad:!a0.j8
  ·
   have H:=H.cf cad
   refine go 6<|wr 25 0<|gp 2 ?_
   cases cae:tc
   ·
    have H:=H.cf cae
    refine gq 23 ?_
    cases H.out; exact ek 1
   have H:=H.ct cae
   refine gq 23 ?_
   cases H.out; exact ek 1
  have H:=H.ct cad
  refine gl 6 [0]<|wr 25 0<|gp 2 ?_
  cases caf:tc
  ·
   have H:=H.cf caf
   refine gq 23 ?_
   cases H.out; exact ek 1
  have H:=H.ct caf
  refine gp 3 ?_
  cases cag:(a0.b7==0)
  ·
   have H:=H.cf cag
   refine gq 20 ?_
   cases H.out; exact ek 1
  have H:=H.ct cag
  refine lx 5 [0] ?_
  cases cah:decide (a0.bE=eE)
  ·
   have H:=H.cf cah
   refine gq 15 ?_
   cases H.out; exact ek 1
  have H:=H.ct cah
  refine lx 5 [0] ?_
  cases cai:decide (a0.ae=eE)
  ·
   have H:=H.cf cai
   refine gq 10 ?_
   cases H.out; exact ek 1
  have H:=H.ct cai
  refine lx 5 [0] ?_
  cases caj:(a0.aM==0)
  ·
   have H:=H.cf caj
   refine gq 5 ?_
   cases H.out; exact ek 1
  have H:=H.ct caj
  refine Hf 5 [0] ?_
  cases H.out; exact ek 1
 have H:=H.ct cac
 refine lx 5 [0] ?_
 cases cak:decide (1≤a0.b7)
 ·
  have H:=H.cf cak
  refine lx 9 [0] ?_
  cases cal:!a0.j8
  ·
   have H:=H.cf cal
   refine go 6<|wr 25 0<|gp 2 ?_
   cases cam:tc
   ·
    have H:=H.cf cam
    refine gq 23 ?_
    cases H.out; exact ek 1
   have H:=H.ct cam
   refine gq 23 ?_
   cases H.out; exact ek 1
  have H:=H.ct cal
  refine gl 6 [0]<|wr 25 0<|gp 2 ?_
  cases can:tc
  ·
   have H:=H.cf can
   refine gq 23 ?_
   cases H.out; exact ek 1
  have H:=H.ct can
  refine gp 3 ?_
  cases cao:(a0.b7==0)
  ·
   have H:=H.cf cao
   refine gq 20 ?_
   cases H.out; exact ek 1
  have H:=H.ct cao
  refine lx 5 [0] ?_
  cases caq:decide (a0.bE=eE)
  ·
   have H:=H.cf caq
   refine gq 15 ?_
   cases H.out; exact ek 1
  have H:=H.ct caq
  refine lx 5 [0] ?_
  cases car:decide (a0.ae=eE)
  ·
   have H:=H.cf car
   refine gq 10 ?_
   cases H.out; exact ek 1
  have H:=H.ct car
  refine lx 5 [0] ?_
  cases cas:(a0.aM==0)
  ·
   have H:=H.cf cas
   refine gq 5 ?_
   cases H.out; exact ek 1
  have H:=H.ct cas
  refine Hf 5 [0] ?_
  cases H.out; exact ek 1
 have H:=H.ct cak
 refine lx 5 [0] ?_
 cases cat:decide (a0.b7≤60)
 rotate_left
 ·
  have H:=H.ct cat
  refine go 10<|wr 25 0<|gp 2 ?_
  cases cau:tc
  ·
   have H:=H.cf cau
   refine gq 23 ?_
   cases H.out; exact ek 1
  have H:=H.ct cau
  refine lx 8 [0] ?_
  cases cav:decide (a0.bE=eE)
  ·
   have H:=H.cf cav
   refine gq 15 ?_
   cases H.out; exact ek 1
  have H:=H.ct cav
  refine lx 5 [0] ?_
  cases caw:decide (a0.ae=eE)
  ·
   have H:=H.cf caw
   refine gq 10 ?_
   cases H.out; exact ek 1
  have H:=H.ct caw
  refine lx 5 [0] ?_
  cases cax:(a0.aM==0)
  ·
   have H:=H.cf cax
   refine gq 5 ?_
   cases H.out; exact ek 1
  have H:=H.ct cax
  refine Hf 5 [0] ?_
  cases H.out; exact ek 1
 have H:=H.cf cat
 refine lx 4 [0] ?_
 cases cay:!a0.j8
 ·
  have H:=H.cf cay
  refine go 6<|wr 25 0<|gp 2 ?_
  cases caz:tc
  ·
   have H:=H.cf caz
   refine gq 23 ?_
   cases H.out; exact ek 1
  have H:=H.ct caz
  refine gq 23 ?_
  cases H.out; exact ek 1
 have H:=H.ct cay
 refine gl 6 [0]<|wr 25 0<|gp 2 ?_
 cases cba:tc
 ·
  have H:=H.cf cba
  refine gq 23 ?_
  cases H.out; exact ek 1
 have H:=H.ct cba
 refine gp 3 ?_
 cases cbb:(a0.b7==0)
 ·
  have H:=H.cf cbb
  refine gq 20 ?_
  cases H.out; exact ek 1
 have H:=H.ct cbb
 refine lx 5 [0] ?_
 cases cbc:decide (a0.bE=eE)
 ·
  have H:=H.cf cbc
  refine gq 15 ?_
  cases H.out; exact ek 1
 have H:=H.ct cbc
 refine lx 5 [0] ?_
 cases cbd:decide (a0.ae=eE)
 ·
  have H:=H.cf cbd
  refine gq 10 ?_
  cases H.out; exact ek 1
 have H:=H.ct cbd
 refine lx 5 [0] ?_
 cases cbe:(a0.aM==0)
 ·
  have H:=H.cf cbe
  refine gq 5 ?_
  cases H.out; exact ek 1
 have H:=H.ct cbe
 refine Hf 5 [0] ?_
 cases H.out; exact ek 1
theorem oF.c (h:oF.f k a0 a1 a2 a3=some r):Pt prog 93 [agg (bF.enc a0),vS a1,vS a2,vS a3] (vI r):=by
 refine pf func93 h fun R0 F H=>?_
 refine wr 2 1<|Dv.box Q T Q cA nofun fun ba=>go 1<|wr 5 24<|gl 2 [0]<|el H fun ta haa H=>cl Q (cL 77) Q (iT.c haa)<|al Q T oz nofun fun bc=>sy 0 ?_
 refine .fin<|wr 4 0<|gl 2 [0]<|el H fun tc hac H=>cl Q (cL 148) Q (eG.c hac)<|go 1<|WP.seq<|so<|ce H ?_ ?_ <;> intro H
 ·
  refine sp ?_
  cases H.out; exact ek 2
 refine WP.skip<|wr 7 0<|gl 3 [0]<|gr H fun ga H=>Dv.jA Q T Q Q rR mZ pG ga.1 ga.2<|fr Q T Q xQ Q<|mL Q T Q qN Q<|go 1<|WP.seq<|wr 24 0<|gp 3 ?_
 cases cc:decide (a3=eE)
 rotate_left
 ·
  have H:=H.ct cc
  refine go 21<|WP.cond Q (fun _=>?_) nofun
  refine sp ?_
  cases H.out; exact ek 2
 have H:=H.cf cc
 refine gp 5 ?_
 cases cg:decide (a3=a2)
 rotate_left
 ·
  have H:=H.ct cg
  refine go 16<|WP.cond Q (fun _=>?_) nofun
  refine sp ?_
  cases H.out; exact ek 2
 have H:=H.cf cg
 refine gp 3 ?_
 cases ci:decide (a3=(⟨#[109,97,105,110]⟩:BA))
 ·
  have H:=H.cf ci
  refine gp 8 ?_
  cases cj:!decide (((Event.K.at ta.fL tc).ae)=eE)
  ·
   have H:=H.cf cj
   refine go 5<|WP.cond Q nofun (fun _=>?_)
   refine WP.skip<|sp ?_
   cases H.out; exact ek 2
  have H:=H.ct cj
  refine go 5<|ce H ?_ ?_ <;> intro H
  ·
   refine sp ?_
   cases H.out; exact ek 2
  refine WP.skip<|sp ?_
  cases H.out; exact ek 2
 have H:=H.ct ci
 refine gp 5 ?_
 cases ck:decide (((Event.K.at ta.fL tc).ae)=eE)
 rotate_left
 ·
  have H:=H.ct ck
  refine go 8<|WP.cond Q (fun _=>?_) nofun
  refine sp ?_
  cases H.out; exact ek 2
 have H:=H.cf ck
 refine gp 3 ?_
 cases cn:!decide (((Event.K.at ta.fL tc).ae)=eE)
 ·
  have H:=H.cf cn
  refine go 5<|WP.cond Q nofun (fun _=>?_)
  refine WP.skip<|sp ?_
  cases H.out; exact ek 2
 have H:=H.ct cn
 refine go 5<|ce H ?_ ?_ <;> intro H
 ·
  refine sp ?_
  cases H.out; exact ek 2
 refine WP.skip<|sp ?_
 cases H.out; exact ek 2
theorem kI.c (h:kI.f k a0 a1=some r):Pt prog 94 [agg (nZ.enc a0),agg (ak.enc a1)] (lr [agg (nZ.enc r.1),agg (ak.enc r.2.1),vB r.2.2]):=by
 refine pf func94 h fun R0 F H=>?_
 refine wr 5 15<|Dv.box Q T Q cA nofun fun ba=>Dv.box Q T Q cA nofun fun bc=>al Q T J5 nofun fun bd=>al Q T vQ nofun fun be=>go 1<|sr H id [2,3,4,5] (fun _=>[]) (fun _=>[]) (fun pa H=>?_) (fun H=>?_)
 rotate_left
 ·
  refine so<|WP.block<|ws 4 [0,1,2,3] 0 ?_
  refine lq (fun j_ (pc:Int)=>kI.l0 k a0 a1 j_ pc) 0 H [2,3,4,5] (fun pc=>[(7,vI pc)]) (fun _=>[]) ?_
  rintro j_ xc H
  rcases j_ with _ | ja
  ·
   exact (aW.no H).elim
  try dsimp only at H
  rw [kI.l0] at H
  refine WP.seq<|wr 5 0<|gl 3 [3]<|Dv.eX Q T Q fS<|go 1<|cf H ?_ ?_ <;> intro H
  ·
   refine WP.exit ?_
   have H:=H.out
   exact jn (xc,decide (xc<(a0.fL.length:Int))) H
  refine WP.skip<|WP.seq<|WP.block<|wd mX 7 0<|gl 3 [3]<|gr H fun ga H=>Dv.jA Q T Q Q fS iB jh ga.1 ga.2<|ll Q T Q wj Q<|gl 1 [2]<|Dv.eqs [.int .i64 ((ak.K.at a0.fL xc).aH),.string ((ak.K.at a0.fL xc).aa),.string ((ak.K.at a0.fL xc).ai),.string ((ak.K.at a0.fL xc).bE),.string ((ak.K.at a0.fL xc).ae),.bool ((ak.K.at a0.fL xc).ao),.bool ((ak.K.at a0.fL xc).j8),.int .i64 ((ak.K.at a0.fL xc).b7),.int .i64 ((ak.K.at a0.fL xc).aM),.int .i64 ((ak.K.at a0.fL xc).aT),.int .i64 ((ak.K.at a0.fL xc).bf)] [.int .i64 a1.aH,.string a1.aa,.string a1.ai,.string a1.bE,.string a1.ae,.bool a1.ao,.bool a1.j8,.int .i64 a1.b7,.int .i64 a1.aM,.int .i64 a1.aT,.int .i64 a1.bf] Q T Q Q Q Q HM (fun _=>kn 2 dc (fun _=>Co (ak.K.at a0.fL xc) a1))<|.fin<|cf H ?_ ?_ <;> intro H
  ·
   exact WP.skip<|rg 3 0<|go 3<|bk ja (av (xc+1)) H
  refine wr 5 12<|gl 1 [3]<|Dv.lI (qs:=[vI 0,vS eE,vS eE,vS eE,vS eE,vB false,vB false,vI 0,vI 0,vI 0,vI 0]) (css:=[]) Q T iB Bl uQ Q T Q Q<|sy 1 ?_
  refine sy 0 ?_
  refine gq 1 ?_
  have H:=H.fU
  cases H.out; exact r4 i2 Q (.cons (au Q BW Q IM (ab 1 Q) Q) (.cons (au Q iB Q jh (ab 0 Q) Q) (.cons (aF Q) .nil)))
 refine so<|wr 5 8<|gl 3 [3]<|vg (eK ak.K none) fun _ _=>?_
 refine gr H fun gb H=>ap ak.K 0 a0.fL bQ fS (.inr ⟨_,fS⟩) nI gb nofun fun va=>?_
 refine go 1<|wr 5 8<|gl 2 [3]<|Dv.lit ak.K ([a1]:List ak) (css:=[ak.enc a1]) Q T fS iB jh uQ Q dc dc Q ⟨(aZ (ak.K.one _)),T⟩ Q Q Q<|gr H fun gi H=>ap ak.K 0 ([a1]:List ak) bQ fS (.inr ⟨_,fS⟩) nI gi nofun fun vb=>?_
 refine go 1<|WP.seq<|wr 5 0<|go 1<|Dv.kZ Q T Q (ab 0 Q) fS<|gl 3 [4]<|cf H ?_ ?_ <;> intro H
 ·
  refine WP.skip<|wr 10 384<|gl 5 [4,4]<|Dv.lI (qs:=[vI a0.pJ,eq vb.1,vI a0.pS]) (css:=[[vI a0.pJ],[eq vb.1],[vI a0.pS]]) Q T BW GH Ik Q ⟨(cells_one (ah Q)),⟨(cells_one bL),⟨(cells_one (ah Q)),T⟩⟩⟩ Q Q<|Dv.lI (qs:=[vI 0,vS eE,vS eE,vS eE,vS eE,vB false,vB false,vI 0,vI 0,vI 0,vI 0]) (css:=[]) Q T iB Bl uQ Q T Q Q<|sy 2 ?_
  refine sy 1 ?_
  refine go 1<|fz 0 [4,5,6] [0,1] ?_
  cases H.out; exact r4 i2 Q (.cons (au Q BW Q IM (ab 1 Q) Q) (.cons (au Q iB Q jh (ab 0 Q) Q) (.cons (aF Q) .nil)))
 refine WP.seq<|fz 0 [2,3,4,5,8,37] [] ?_
 refine dg mX 14 6144<|gl 3 [3]<|gr H fun gj H=>Dv.sls Q T Q fS iB jh (ff Q gj.1) dG gj.2.1 gj.2.2<|gl 3 [3]<|Dv.lI (qs:=[vI a0.pJ,sl ak.K ((((([]:List ak)++a0.fL)++([a1]:List ak)).take (((([]:List ak)++a0.fL)++([a1]:List ak)).length)).drop ((1:Int).toNat)),vI (av (a0.pS+1))]) (css:=[[vI a0.pJ],[sl ak.K ((((([]:List ak)++a0.fL)++([a1]:List ak)).take (((([]:List ak)++a0.fL)++([a1]:List ak)).length)).drop ((1:Int).toNat))],[vI (av (a0.pS+1))]]) Q T BW GH Ik Q ⟨(cells_one (ah Q)),⟨(cells_one dP),⟨(cells_one (ah Q)),T⟩⟩⟩ Q Q<|go 1<|gr H fun gk H=>Dv.jA Q T Q Q fS iB jh gk.1 gk.2<|ll Q T Q wj Q<|sx 1 Q T Q Q cA sz118 Q Q Q pD ?_
 refine sv 0 ?_
 refine gq 1 ?_
 cases H.out; exact r4 i2 Q (.cons (au Q BW Q IM (ab 1 Q) Q) (.cons (au Q iB Q jh (ab 0 Q) Q) (.cons (aF Q) .nil)))
end Go.Proofs.YtfknmdelgepbjaaGreatDoor
