import Derived.Test.YtelcbdmigiacpaaGreatZWalks1
set_option linter.all false
set_option autoImplicit true
set_option maxRecDepth 10000
set_option maxHeartbeats 20000000
namespace Go.Proofs.YtelcbdmigiacpaaGreat
open Go Go.Sp Tryz
theorem dO.c {p0_:OV} (h:dO.f k a0 a1=some r):Tr prog 65 [eq p0_.1,vS a1] [bY.O p0_ a0] (γ:=Unit) (λ_=>True) (λg=>lg []) (λg=>[bY.O p0_ r]):=by
 refine tf func65 h λR0 F H=>?_
 refine rg 7 64<|go 1<|Dv.mD bY.nn Q T Q (ab 0 Q)<|vg (bY.eF 0 Q) λgb haa=>?_
 refine fp haa Q T Q iS<|gl 3 [0]<|el H λta hac H=>cx 10 [7,0,1,2,3,4,5,6,8,9] (cL 99) (jA.c hac (p0_:=gb.2.2.2.2.2.2.2.1)) nofun λ_ _=>?_
 refine .fin<|ng (bY.shut (p:=p0_) (m:=(⟨a0.av,a0.aG,a0.aq,(⟨a0.fall.aK,a0.fall.aA,a0.fall.ax,a0.fall.an,ta.2.2⟩:Src),a0.aI,a0.aa⟩:bY)) (gb.1,gb.2.1,gb.2.2.1,gb.2.2.2.1,gb.2.2.2.2.1,gb.2.2.2.2.2.1,gb.2.2.2.2.2.2.1,gb.2.2.2.2.2.2.2.1,gb.2.2.2.2.2.2.2.2.1,gb.2.2.2.2.2.2.2.2.2) haa (pm 10 [1,2,3,4,5,6,7,0,8,9])) λ_ _=>?_
 obtain rfl:=aW.out H
 exact re Q () 1 [0] 0 .nil
theorem strings_Join.c {xs:List BA} {sep r:BA} (h:strings_Join.f xs sep=some r):Tr prog 100 [sl az xs,vS sep] [lax] (γ:=Unit) (λ_=>True) (λ_=>vS r) (λ_=>[lax]):=Tr.CK λR F w us hu hs=>by
  obtain⟨⟨h1,h2⟩,H⟩:=aW.aF (aW.of h)
  obtain rfl:=aW.out H
  cases hu with
  | cons ha hu=>cases hu with
    | cons hb hu=>
      cases hu
      simp only [ez] at hb
      subst hb
      rcases Af ha hs with⟨a,c,rfl,rfl⟩|⟨b,off,c,rfl,hl,hlt,hc⟩
      · exact⟨_,Q,(Tryz.strings_Join_none a c sep w).mono λe w' ⟨he,hw⟩=>⟨he,hw ▸ Go.RowKit.Below.refl _ _⟩⟩
      · exact⟨_,Q,Tryz.strings_Join b off c xs sep w hc hlt h1 hl h2⟩
theorem jP.c (h:jP.f a0=some r):Tr prog 66 [agg (aM.enc a0)] [lax] (γ:=Unit) (λ_=>True) (λg=>vS r) (λg=>[lax]):=by
 refine tf func66 h λR0 F H=>?_
 refine wr 2 1<|Dv.box Q T Q cA nofun λba=>go 1<|so<|WP.seq<|wu [0]<|cf H ?_ ?_ <;> intro H
 ·refine WP.skip<|wr 10 0<|gl 7 [0,0,0]<|Dv.lit az ([(⟨#[109]⟩:BA),a0.aj,a0.aC,a0.ah,(⟨#[48]⟩:BA)]:List BA) (css:=[[vS (⟨#[109]⟩:BA)],[vS a0.aj],[vS a0.aC],[vS a0.ah],[vS (⟨#[48]⟩:BA)]]) Q T iu U9 c9 z9 Q dc dc Q ⟨(cells_one (ai Q)),⟨(cells_one (ai Q)),⟨(cells_one (ai Q)),⟨(cells_one (ai Q)),⟨(cells_one (ai Q)),T⟩⟩⟩⟩⟩ Q Q Q<|el H λta haa H=>mH 2 [1,0] (cL 100) (strings_Join.c haa) ?_
  refine gq 1 ?_
  cases H.out;exact et () 2 [0,1] 1
 refine rg 1 0<|go 1<|wr 10 0<|gl 7 [0,0,0]<|Dv.lit az ([(⟨#[109]⟩:BA),a0.aj,a0.aC,a0.ah,(⟨#[49]⟩:BA)]:List BA) (css:=[[vS (⟨#[109]⟩:BA)],[vS a0.aj],[vS a0.aC],[vS a0.ah],[vS (⟨#[49]⟩:BA)]]) Q T iu U9 c9 z9 Q dc dc Q ⟨(cells_one (ai Q)),⟨(cells_one (ai Q)),⟨(cells_one (ai Q)),⟨(cells_one (ai Q)),⟨(cells_one (ai Q)),T⟩⟩⟩⟩⟩ Q Q Q<|el H λtc hac H=>mH 2 [1,0] (cL 100) (strings_Join.c hac) ?_
 refine gq 1 ?_
 cases H.out;exact et () 2 [0,1] 1
theorem server_Server_Event.c {p0_:OV} (h:server_Server_Event.f k a0 a1=some r):Tr prog 38 [eq p0_.1,agg (Event.enc a1)] [lax,bY.O p0_ a0] (γ:=Unit) (λ_=>True) (λg=>vI r.1) (λg=>[lax,bY.O p0_ r.2]):=by
 refine tf func38 h λR0 F H=>?_
 refine wr 2 1<|Dv.box Q T Q cA nofun λba=>go 1<|WP.seq<|WP.seq<|wg (bY.eF 2 Q) λgb haa=>?_
 refine dg mX 8 64<|go 1<|Dv.aJ haa Q T Q<|fp haa Q T Q iS<|gl 3 [0,10]<|el H λta hac H=>cx 12 [3,0,1,2,4,5,6,7,8,9,10,11] (cL 63) (iU.c hac (p0_:=gb.2.2.2.1)) pC λ_ _=>?_
 refine go 1<|so<|ce H ?_ ?_ <;> intro H
 ·refine so<|wg (bY.shut (p:=p0_) (m:=(⟨a0.av,a0.aG,a0.aq,(⟨ta.2,a0.fall.aA,a0.fall.ax,a0.fall.an,a0.fall.bQ⟩:Src),a0.aI,a0.aa⟩:bY)) (gb.1,gb.2.1,gb.2.2.1,gb.2.2.2.1,gb.2.2.2.2.1,gb.2.2.2.2.2.1,gb.2.2.2.2.2.2.1,gb.2.2.2.2.2.2.2.1,gb.2.2.2.2.2.2.2.2.1,gb.2.2.2.2.2.2.2.2.2) haa (pm 12 [1,2,3,0,4,5,6,7,8,9,10,11])) λ_ _=>?_
  cases H.out;exact et () 3 [1,2,0] 1
 refine WP.skip<|WP.kW H (λqa:(Int×Int×Bool×bY×(List aM))×OV=>qa.1) (λqa=>[]) (λqa=>[ar ba 107 (Event.enc a1),bY.O p0_ qa.1.2.2.2.1,lax,own aM.K qa.2.1 qa.1.2.2.2.2]++F) (λqa H=>?_) (λH=>?_)
 ·obtain⟨pa,va⟩:=qa
  refine sp ?_
  cases H.out;exact et () 4 [0,3,2,1] 2
 refine WP.seq<|dgo mX [0,1,2,3,4,5,6,7,8,9,10,11,12,13,16,14,15] [14]<|go 1<|Dv.aJ haa Q T Q<|fp haa Q T Q iS<|gl 3 [1]<|Dv.aJ haa Q T Q<|fp haa Q T Q iS<|gl 7 [1,10,10]<|el H λtc had H=>Dv.lS (pre:=[dE.O gb.2.2.2.2.1 a0.fall.aA,au.O gb.2.2.2.1 ta.2]) (F:=[ar gb.1 102 [vS a0.av,eq gb.2.1.1,eq gb.2.2.1.1,eq gb.2.2.2.1.1,eq gb.2.2.2.2.1.1,eq gb.2.2.2.2.2.1.1,eq gb.2.2.2.2.2.2.1.1,eq gb.2.2.2.2.2.2.2.1.1,eq gb.2.2.2.2.2.2.2.2.1.1,eq gb.2.2.2.2.2.2.2.2.2.1],bI.O gb.2.1 a0.aG,bI.O gb.2.2.1 a0.aq,bG.O gb.2.2.2.2.2.1 a0.fall.ax,bJ.O gb.2.2.2.2.2.2.1 a0.fall.an,bE.O gb.2.2.2.2.2.2.2.1 a0.fall.bQ,Seen.O gb.2.2.2.2.2.2.2.2.1 a0.aI,iq Value.string aO.O gb.2.2.2.2.2.2.2.2.2.1 a0.aa,ar ba 107 (Event.enc a1),lax]++F) (λgc:OV=>[dE.O gb.2.2.2.2.1 tc.2,au.O gb.2.2.2.1 ta.2,own aM.K gc.1 tc.1,ar gb.1 102 [vS a0.av,eq gb.2.1.1,eq gb.2.2.1.1,eq gb.2.2.2.1.1,eq gb.2.2.2.2.1.1,eq gb.2.2.2.2.2.1.1,eq gb.2.2.2.2.2.2.1.1,eq gb.2.2.2.2.2.2.2.1.1,eq gb.2.2.2.2.2.2.2.2.1.1,eq gb.2.2.2.2.2.2.2.2.2.1],bI.O gb.2.1 a0.aG,bI.O gb.2.2.1 a0.aq,bG.O gb.2.2.2.2.2.1 a0.fall.ax,bJ.O gb.2.2.2.2.2.2.1 a0.fall.an,bE.O gb.2.2.2.2.2.2.2.1 a0.fall.bQ,Seen.O gb.2.2.2.2.2.2.2.2.1 a0.aI,iq Value.string aO.O gb.2.2.2.2.2.2.2.2.2.1 a0.aa,ar ba 107 (Event.enc a1),lax]++F) Q T (cL 64) Q (marks_Marks_Arrive.c had (p0_:=gb.2.2.2.2.1) (p1_:=gb.2.2.2.1)) (bN (L:=[au.O gb.2.2.2.1 ta.2,ar gb.1 102 [vS a0.av,eq gb.2.1.1,eq gb.2.2.1.1,eq gb.2.2.2.1.1,eq gb.2.2.2.2.1.1,eq gb.2.2.2.2.2.1.1,eq gb.2.2.2.2.2.2.1.1,eq gb.2.2.2.2.2.2.2.1.1,eq gb.2.2.2.2.2.2.2.2.1.1,eq gb.2.2.2.2.2.2.2.2.2.1],bI.O gb.2.1 a0.aG,bI.O gb.2.2.1 a0.aq,dE.O gb.2.2.2.2.1 a0.fall.aA,bG.O gb.2.2.2.2.2.1 a0.fall.ax,bJ.O gb.2.2.2.2.2.2.1 a0.fall.an,bE.O gb.2.2.2.2.2.2.2.1 a0.fall.bQ,Seen.O gb.2.2.2.2.2.2.2.2.1 a0.aI,iq Value.string aO.O gb.2.2.2.2.2.2.2.2.2.1 a0.aa,ar ba 107 (Event.enc a1),lax]) (F:=F) [4,0,1,2,3,5,6,7,8,9,10,11] kr Q Q) Q pE (λgc _=>?_)
 refine Dv.kl Q T Q (ab 2 Q) zW<|.fin<|WP.block<|wg (bY.shut (p:=p0_) (m:=(⟨a0.av,a0.aG,a0.aq,(⟨ta.2,tc.2,a0.fall.ax,a0.fall.an,a0.fall.bQ⟩:Src),a0.aI,a0.aa⟩:bY)) (gb.1,gb.2.1,gb.2.2.1,gb.2.2.2.1,gb.2.2.2.2.1,gb.2.2.2.2.2.1,gb.2.2.2.2.2.2.1,gb.2.2.2.2.2.2.2.1,gb.2.2.2.2.2.2.2.2.1,gb.2.2.2.2.2.2.2.2.2) haa (pm 13 [3,4,5,1,0,6,7,8,9,10,2,11,12])) λ_ _=>?_
 refine ws 4 [2,0,1,3] 0 ?_
 refine lq (λj_ (pc:Int×bY)=>server_Server_Event.l0 k tc j_ pc.1 pc.2) (0,(⟨a0.av,a0.aG,a0.aq,(⟨ta.2,tc.2,a0.fall.ax,a0.fall.an,a0.fall.bQ⟩:Src),a0.aI,a0.aa⟩:bY)) H [0,32,33] (λpc=>[(34,vI pc.1)]) (λpc=>[(1,bY.O p0_ pc.2)]) ?_
 rintro j_ ⟨xa,xb⟩ H
 rcases j_ with _ | ja
 ·exact(aW.no H).elim
 try dsimp only at H
 rw [server_Server_Event.l0] at H
 refine so<|WP.seq<|cf H ?_ ?_ <;> intro H
 ·refine WP.exit ?_
  have H:=H.out
  refine ns 4 [0,1,3,2] 0 ?_
  exact jn (((tc.1.length:Int),xa,decide (xa<(tc.1.length:Int)),xb,tc.1),gc) H
 refine WP.skip<|WP.seq<|WP.block<|wr 4 12<|gr H λgi H=>?_
 have hae:xa.toNat<tc.1.length:=cQ gi
 refine Dv.na Q T Q (ab 2 Q) Q zW C9 Hp gi.1 gi.2<|Dv.kX (j:=xa.toNat) (f:=0) Q T Q (ab 2 Q) hae C9 Q Hp (Nat.le_of_ble_eq_true Q)<|al Q T Hj nofun λbc=>sy 0 ?_
 refine .fin<|rg 4 8<|gl 2 [0]<|el H λte haf H=>mH 5 [4,0,1,2,3] (cL 66) (jP.c haf) ?_
 refine el H λtg hag H=>cx 5 [2,0,1,3,4] (cL 65) (dO.c hag (p0_:=p0_)) nofun λ_ _=>?_
 refine .fin<|rg 2 0<|go 2<|ns 5 [1,2,0,3,4] 1 ?_
 exact bk ja (aE (xa+1),tg) H
theorem Ie (x y:Pos):jN.f 8 x y=some (jy x y):=by
 unfold jN.f dj.f bu.f cmp_isNaN_int.f cmp_isNaN_string.f b8.f jy nS
 simp only [Option.bind_some,bne_self_eq_false,decide_true,Bool.not_true,cond_false]
 rcases Int.lt_trichotomy x.br y.br with h | h | h
 ·have h2:¬ y.br<x.br:=om
  simp only [h,decide_true,cond_true,Option.bind_some,if_true]
  cases il x.cC y.cC <;> cases il y.cC x.cC <;> rfl
 rotate_left
 ·have h1:¬ x.br<y.br:=om
  simp only [h,h1,decide_true,decide_false,cond_true,cond_false,Option.bind_some,if_true,if_false]
  cases il x.cC y.cC <;> cases il y.cC x.cC <;> rfl
 have h1:¬ x.br<y.br:=om
 have h2:¬ y.br<x.br:=om
 simp only [h1,h2,decide_false,cond_false,Option.bind_some,if_false]
 cases il x.cC y.cC <;> cases il y.cC x.cC <;> rfl
theorem xv (x y:Pos):ltOf jy x y=true↔x.br<y.br\/(x.br=y.br/\il x.cC y.cC=true):=by
 unfold ltOf jy
 rw [decide_eq_true_eq]
 by_cases h:x.br<y.br
 ·simp [h]
 by_cases h2:y.br<x.br
 ·rw [if_neg h,if_pos h2];constructor
  ·intro k;omega
  rintro(k | ⟨k,_⟩) <;> omega
 rw [if_neg h,if_neg h2,yg];constructor
 ·intro k;exact .inr ⟨om,k⟩
 rintro(k | ⟨_,k⟩)
 ·omega
 exact k
theorem vW (x y:Pos):ltOf jy x y=false↔y.br<x.br\/(x.br=y.br/\il x.cC y.cC=false):=by
  have h:=xv x y
  cases e:ltOf jy x y with
  | true=>
    have h:=h.1 e
    refine⟨λk=>(by cases k),λk=>?_⟩
    rcases h with h | ⟨h1,h2⟩ <;> rcases k with k | ⟨k1,k2⟩
    · omega
    · omega
    · omega
    · rw [h2] at k2;cases k2
  | false=>
    refine⟨λ_=>?_,λ_=>Q⟩
    rw [e] at h
    have h:¬ _:=λk=>by have:=h.2 k;cases this
    rcases Int.lt_trichotomy x.br y.br with k | k | k
    · exact(h (.inl k)).elim
    · cases e2:il x.cC y.cC with
      | true=>exact(h (.inr ⟨k,e2⟩)).elim
      | false=>exact .inr ⟨k,rfl⟩
    · exact .inl k
theorem wj:Go.Sort.SWO (ltOf jy) where
  irrefl x:=by rw [vW];exact .inr ⟨rfl,oL _⟩
  trans x y z h1 h2:=by
    rw [xv] at *
    rcases h1 with h1 | ⟨h1,k1⟩ <;> rcases h2 with h2 | ⟨h2,k2⟩
    · exact .inl om
    · exact .inl om
    · exact .inl om
    · exact .inr ⟨om,ra k1 k2⟩
  ntrans x y z h1 h2:=by
    rw [vW] at *
    rcases h1 with h1 | ⟨h1,k1⟩ <;> rcases h2 with h2 | ⟨h2,k2⟩
    · exact .inl om
    · exact .inl om
    · exact .inl om
    · exact .inr ⟨om,rE k2 k1⟩
theorem wi (x y:Pos) (h1:ltOf jy x y=false) (h2:ltOf jy y x=false):x=y:=by
 rw [vW] at *
 rcases h1 with h1 | ⟨h1,k1⟩ <;> rcases h2 with h2 | ⟨h2,k2⟩
 ·omega
 ·omega
 ·omega
 obtain⟨a,b⟩:=x;obtain⟨c,d⟩:=y
 simp only at h1 k1 k2
 rw [h1,mQ k1 k2]
theorem er.c {p0_:OV} (h:er.f a0=some r):Tr prog 298 [eq p0_.1,eq (.func (.func 227) #[] #[])] [own Pos.K p0_.1 a0] (γ:=Unit) (λ_=>True) (λg=>lg []) (λg=>[own Pos.K p0_.1 r]):=by
 unfold er.f at h
 obtain⟨h0,h5⟩:=(aW.of h).aF
 obtain rfl:=aW.out h5
 exact D4 (K:=Pos.K) (ev:=λx=>[.int .i64 x.br,.string x.cC]) (λ_=>Q) dc (λx y=>jN.c (Ie x y)) (λar off cap d w hc hH hb hs=>AnyQ.slices_SortFunc_total Tryz.lays6 2 Tryz.isAgg49 Tryz.sizeOf49 _ (λ_=>Q) (λx v hv=>by simp at hv;rcases hv with rfl | rfl <;> rfl) jy wj 227 #[] ar off cap d w (enters_of func227 kr Q) hc hH hb hs wi) (λq cap w=>AnyF.slices_SortFunc_none Tryz.lays6 q cap _ w) om
theorem o3.c {b0_:Nat} (h:o3.f a0=some r):Tr prog 291 [iT b0_] [ar b0_ 278 [vS a0.fe.cC,vS a0.fe.aj,sl az a0.fe.ag,vS a0.fe.ah,vS a0.fe.aC,vI a0.fe.cW,vI a0.dx,vB a0.lG]] (γ:=Unit) (λ_=>True) (λg=>vB r) (λg=>[ar b0_ 278 [vS a0.fe.cC,vS a0.fe.aj,sl az a0.fe.ag,vS a0.fe.ah,vS a0.fe.aC,vI a0.fe.cW,vI a0.dx,vB a0.lG]]):=by
 refine tf func291 h λR0 F H=>?_
 refine so<|sp ?_
 cases H.out;exact et () 1 [0] 0
theorem aT.c {b0_:Nat} {v0_0:OV} (h:aT.f a0=some r):Tr prog 290 [iT b0_,eq (.func (.func 291) #[] #[])] [ar b0_ 274 [vS a0.cP,eq v0_0.1],iq Value.string bp.O v0_0.1 a0.aw] (γ:=OV) (λ_=>True) (λg=>eq g.1) (λg=>[ar b0_ 274 [vS a0.cP,eq v0_0.1],iq Value.string bp.O v0_0.1 a0.aw,own az g.1 r]):=by
  unfold aT.f at h
  obtain⟨h0,h5⟩:=(aW.of h).aF
  obtain rfl:=aW.out h5
  clear h h5
  refine Tr.body func290 (c:=_) Q ntmps290 (Nat.le_of_ble_eq_true Q) λR0 F=>?_
  refine so<|sp ?_
  refine WP.xX (β:=List Nat×OV) (λb=>b.1.Perm (List.range a0.aw.length)) (λb=>[(5,eq b.2.1),(1,eq (.func (.func 291) #[] #[]))]) (λb=>[own Pos.K b.2.1 (eD a0.aw aT.g b.1),iq Value.string bp.O v0_0.1 a0.aw,ar b0_ 274 [vS a0.cP,eq v0_0.1]]++F) (λb hb=>?_) ?_
  rotate_left
  · refine wr 5 16<|jf 4 [0] ?_
    refine Dv.gh (l':=λps:List OV=>[mp Value.string (λp:OV=>eq p.1) v0_0.1 (aU a0.aw ps),lQ bp.O a0.aw ps,ar b0_ 274 [vS a0.cP,eq v0_0.1]]++F) (bL (kn 1 Q)) (λps hps=>?_)
    refine Dv.Jp (jj:=0) Q T Q Q wy nofun (λq=>.fin ?_)
    refine WP.gh (l':=λ_:Unit=>[kG Value.string (λp:OV=>eq p.1) v0_0.1 q.1 (aU a0.aw ps) [],lQ bp.O a0.aw ps,ar b0_ 274 [vS a0.cP,eq v0_0.1]]++F) (bL (ok:=λ_=>True) λR w k=>⟨(),T,k⟩) (λ_ _=>?_)
    refine WP.gh (l':=λ_:Unit=>[own Pos.K iQ.1 [],kG Value.string (λp:OV=>eq p.1) v0_0.1 q.1 (aU a0.aw ps) [],lQ bp.O a0.aw ps,ar b0_ 274 [vS a0.cP,eq v0_0.1]]++F) (bL (dX Pos.K none)) (λ_ _=>?_)
    refine WP.block ?_
    refine WP.fG (E':=(λb:List Nat×OV=>[(5,eq b.2.1),(15,eq q.1),(1,eq (.func (.func 291) #[] #[]))]) ([],iQ)) (aH Q (aH Q (aH Q dD))) (WP.loop (β:=List Nat×OV) (λk b=>b.1.length+k=a0.aw.length) (λb=>[(5,eq b.2.1),(15,eq q.1),(1,eq (.func (.func 291) #[] #[]))]) (λb=>[own Pos.K b.2.1 (eD a0.aw aT.g b.1),kG Value.string (λp:OV=>eq p.1) v0_0.1 q.1 (aU a0.aw ps) b.1,lQ bp.O a0.aw ps,ar b0_ 274 [vS a0.cP,eq v0_0.1]]++F) ?_ (k:=a0.aw.length) (b:=([],iQ)) (Nat.zero_add _))
    rintro k ⟨is,v⟩ hk
    replace hk:is.length+k=a0.aw.length:=hk
    refine wr 2 1<|Dv.Jg (jj:=1) Q T Q Q nofun (λz hz=>?_)
    rcases z with _ | j
    · have hz:is.Perm (List.range (aU a0.aw ps).length):=hz
      rw [mR hps.1] at hz
      refine dZ Q T Q Q<|.fin<|WP.seq<|WP.cond Q nofun (λ_=>WP.exit ?_)
      refine Dn.gh (l':=λ_:Unit=>[own Pos.K v.1 (eD a0.aw aT.g is),kG Value.string (λp:OV=>eq p.1) v0_0.1 q.1 (aU a0.aw ps) is,lQ bp.O a0.aw ps,ar b0_ 274 [vS a0.cP,eq v0_0.1]]++F) (bL (ok:=λ_=>True) λR w k=>⟨(),T,k⟩) (λ_ _=>?_)
      refine Dn.gh (l':=λ_:Unit=>[mp Value.string (λp:OV=>eq p.1) v0_0.1 (aU a0.aw ps),own Pos.K v.1 (eD a0.aw aT.g is),lQ bp.O a0.aw ps,ar b0_ 274 [vS a0.cP,eq v0_0.1]]++F) (bL (rB (pm 4 [1,0,2,3]))) (λ_ _=>?_)
      refine Dn.gh (l':=λ_:Unit=>[iq Value.string bp.O v0_0.1 a0.aw,own Pos.K v.1 (eD a0.aw aT.g is),ar b0_ 274 [vS a0.cP,eq v0_0.1]]++F) (bL (eL hps Q (pm 4 [0,2,1,3]))) (λ_ _=>?_)
      exact Jn.mk (is,v) hz (aH Q (aH Q dD)) (pN 3 [1,0,2] kr Q Q)
    have hz:j<(aU a0.aw ps).length/\j ∉ is/\is.length<(aU a0.aw ps).length:=hz
    obtain⟨e,p,he,hp,hep⟩:=r6 hps hz.1
    have hlt:is.length<a0.aw.length:=by rw [<- mR hps.1];exact hz.2.2
    have hsl:=Nat.le_trans (qJ (m:=a0.aw) (f:=aT.g) (is:=is)) (Nat.le_of_lt hlt)
    have e1:nxV Value.string (λp:OV=>eq p.1) (aU a0.aw ps) (some j)=lg [vB true,vS e.1,eq p.1]:=by simp only [nxV,hep]
    rw [e1]
    refine dZ Q T Q Q<|.fin<|WP.seq<|WP.cond Q (λ_=>WP.skip ?_) nofun
    refine WP.gh (l':=λ_:Unit=>[own Pos.K v.1 (eD a0.aw aT.g is),kG Value.string (λp:OV=>eq p.1) v0_0.1 q.1 (aU a0.aw ps) (is++[j]),lQ bp.O a0.aw ps,ar b0_ 274 [vS a0.cP,eq v0_0.1]]++F) (bL (ok:=λ_=>True) λR w k=>⟨(),T,k⟩) (λ_ _=>?_)
    refine WP.block<|wr 5 0<|Dv.Jr 1 Q T Q Q hep ?_
    refine dZ Q T Q Q<|dZ Q T Q Q<|gq 2 ?_
    refine WP.gh (l':=λ_:Unit=>[bp.O p e.2,mG bp.O a0.aw ps j,own Pos.K v.1 (eD a0.aw aT.g is),kG Value.string (λp:OV=>eq p.1) v0_0.1 q.1 (aU a0.aw ps) (is++[j]),ar b0_ 274 [vS a0.cP,eq v0_0.1]]++F) (bL (B1 he hp (pm 4 [2,0,1,3]))) (λ_ _=>?_)
    refine WP.gh (l':=λb:Nat=>[ar b 278 [vS e.2.fe.cC,vS e.2.fe.aj,sl az e.2.fe.ag,vS e.2.fe.ah,vS e.2.fe.aC,vI e.2.fe.cW,vI e.2.dx,vB e.2.lG],mG bp.O a0.aw ps j,own Pos.K v.1 (eD a0.aw aT.g is),kG Value.string (λp:OV=>eq p.1) v0_0.1 q.1 (aU a0.aw ps) (is++[j]),ar b0_ 274 [vS a0.cP,eq v0_0.1]]++F) (bL (bp.eF 0 Q)) (λb hb=>?_)
    refine wr 3 0<|go 2<|Dv.DH (fst:=#[]) (B:=[ar b 278 [vS e.2.fe.cC,vS e.2.fe.aj,sl az e.2.fe.ag,vS e.2.fe.ah,vS e.2.fe.aC,vI e.2.fe.cW,vI e.2.dx,vB e.2.lG]]) (F:=[mG bp.O a0.aw ps j,own Pos.K v.1 (eD a0.aw aT.g is),kG Value.string (λp:OV=>eq p.1) v0_0.1 q.1 (aU a0.aw ps) (is++[j]),ar b0_ 274 [vS a0.cP,eq v0_0.1]]++F) Q T Q (cL 291) Q (Tr.fG (o3.c (a0:=e.2) (b0_:=b) (r:=true) Q) (.cons (eb hb) .nil)) (List.Perm.refl _)<|.fin ?_
    refine WP.cond Q (λc1=>?_) (λc1=>?_)
    · have hg:aT.g e=some ⟨e.2.dx,e.1⟩:=by unfold aT.g;rw [c1];rfl
      have e6:=o7 (f:=aT.g) (is:=is) he hg
      have hbd:(eD a0.aw aT.g is).length+([⟨e.2.dx,e.1⟩]:List Pos).length<=9223372036854775807/\((eD a0.aw aT.g is).length+([⟨e.2.dx,e.1⟩]:List Pos).length)*24<=140737488355328:=by rw [List.length_singleton];omega
      refine rg 10 256<|go 2<|Dv.aJ hb Q T Q<|fp hb Q T Q xH<|gl 2 [0]<|Dv.lD (css:=[[vI e.2.dx],[vS e.1]]) Q T uA Ct z49 Q ⟨(cells_one (ai Q)),⟨(cells_one (ai Q)),T⟩⟩ Q Q<|Dv.lit Pos.K ([⟨e.2.dx,e.1⟩]:List Pos) (css:=[[vI e.2.dx,vS e.1]]) Q T DO uA yF z49 Q dc dc Q ⟨cA,T⟩ Q Q Q<|ap Pos.K 2 ([⟨e.2.dx,e.1⟩]:List Pos) dG DO (.inr ⟨_,DO⟩) inf49 hbd nofun λv9=>go 1 ?_
      refine Dn.gh (l':=λ_:Unit=>[bp.O p e.2,mG bp.O a0.aw ps j,own Pos.K v9.1 ((eD a0.aw aT.g is)++([⟨e.2.dx,e.1⟩]:List Pos)),kG Value.string (λp:OV=>eq p.1) v0_0.1 q.1 (aU a0.aw ps) (is++[j]),ar b0_ 274 [vS a0.cP,eq v0_0.1]]++F) (bL (bp.shut (p:=p) (m:=e.2) b hb (List.Perm.refl _))) (λ_ _=>?_)
      refine Dn.gh (l':=λ_:Unit=>[lQ bp.O a0.aw ps,own Pos.K v9.1 ((eD a0.aw aT.g is)++([⟨e.2.dx,e.1⟩]:List Pos)),kG Value.string (λp:OV=>eq p.1) v0_0.1 q.1 (aU a0.aw ps) (is++[j]),ar b0_ 274 [vS a0.cP,eq v0_0.1]]++F) (bL (xL he hp (List.Perm.refl _))) (λ_ _=>?_)
      rw [e6]
      exact qt.mk (k-1) (is++[j],v9) om (by show(is++[j]).length+(k-1)=_;rw [List.length_append,List.length_singleton];omega) (aH Q (aH Q (aH Q dD))) (pN 4 [1,2,0,3] kr Q Q)
    cases c1
  obtain⟨is,v5⟩:=b
  replace hb:is.Perm (List.range a0.aw.length):=hb
  have hp:=pP (f:=aT.g) hb
  have hs:er.f (eD a0.aw aT.g is)=some (lW jy (a0.aw.filterMap aT.g)):=by
    unfold er.f Sp.aF
    rw [if_pos (by rw [hp.length_eq];exact Nat.le_trans (List.length_filterMap_le _ _) h0),Cp wj wi hp]
  have hS:(lW jy (a0.aw.filterMap aT.g)).length<=1000000:=by rw [nE,List.length_mergeSort];exact Nat.le_trans (List.length_filterMap_le _ _) h0
  refine wr 2 2<|go 1<|cx 3 [0,1,2] (cL 298) (er.c hs (p0_:=v5)) nofun λ_ _=>.fin ?_
  generalize lW jy (a0.aw.filterMap aT.g)=S at hS
  refine sp ?_
  refine WP.xX (β:=OV) (λ_=>True) (λv=>[(8,eq v.1)]) (λv=>[own az v.1 (S.map (·.cC)),own Pos.K v5.1 S,iq Value.string bp.O v0_0.1 a0.aw,ar b0_ 274 [vS a0.cP,eq v0_0.1]]++F) (λv _=>?_) ?_
  · refine so<|rt i2 Q v 4 [1,3,2,0] 1 (.cons (aQ Q) .nil)
  refine wr 3 0<|go 1<|Dv.kl (Kd:=Pos.K) (xs:=S) (v:=v5.1) Q T Q (ab 0 Q) DO<|gq 1 ?_
  refine WP.gh (l':=λ_:Unit=>[own az iQ.1 [],own Pos.K v5.1 S,iq Value.string bp.O v0_0.1 a0.aw,ar b0_ 274 [vS a0.cP,eq v0_0.1]]++F) (bL (dX az none)) (λ_ _=>?_)
  refine WP.block ?_
  refine WP.fG (E':=(λb:Nat×OV=>[(8,eq b.2.1),(35,eq v5.1),(36,vI (S.length:Int)),(37,vI (b.1:Int))]) (0,iQ)) (aH Q (aH Q (aH Q (aH Q dD)))) (WP.loop (β:=Nat×OV) (λk b=>b.1+k=S.length) (λb=>[(8,eq b.2.1),(35,eq v5.1),(36,vI (S.length:Int)),(37,vI (b.1:Int))]) (λb=>[own az b.2.1 ((S.take b.1).map (·.cC)),own Pos.K v5.1 S,iq Value.string bp.O v0_0.1 a0.aw,ar b0_ 274 [vS a0.cP,eq v0_0.1]]++F) ?_ (k:=S.length) (b:=(0,iQ)) (Nat.zero_add _))
  rintro k ⟨j,v8⟩ hk
  replace hk:j+k=S.length:=hk
  refine so<|WP.seq<|WP.cond Q (λc2=>WP.skip ?_) (λc2=>WP.exit ?_)
  rotate_left
  · have c3:¬ ((j:Int)<(S.length:Int)):=of_decide_eq_false c2
    have e3:S.take j=S:=List.take_of_length_le om
    change ∀ R a w,R0.le R->od _ R a _->St R ([own az v8.1 ((S.take j).map (·.cC)),own Pos.K v5.1 S,iq Value.string bp.O v0_0.1 a0.aw,ar b0_ 274 [vS a0.cP,eq v0_0.1]]++F) w->_
    rw [e3]
    exact Jn.mk v8 T (aH Q dD) (List.Perm.refl _)
  have c3:(j:Int)<(S.length:Int):=of_decide_eq_true c2
  have hj:j<S.length:=om
  refine WP.seq<|WP.block<|wr 4 12<|Dv.na Q T Q (ab 1 Q) Q DO uA yF om c3<|Dv.kX (j:=j) (f:=0) Q T Q (ab 1 Q) hj uA Q yF (Nat.le_of_ble_eq_true Q)<|al Q T nu nofun λb=>sx 0 Q T Q Q cA vZ Q Q Q nofun<|.fin ?_
  have hbd:((S.take j).map (·.cC)).length+([(S.getD j default).cC]:List BA).length<=9223372036854775807/\(((S.take j).map (·.cC)).length+([(S.getD j default).cC]:List BA).length)*16<=140737488355328:=by rw [List.length_singleton,List.length_map,List.length_take];omega
  refine rg 6 16<|gl 3 [0]<|Dv.lit az ([(S.getD j default).cC]:List BA) (css:=[[vS ((S.getD j default).cC)]]) Q T iu U9 c9 z9 Q dc dc Q ⟨(cells_one (ai Q)),T⟩ Q Q Q<|ap az 1 ([(S.getD j default).cC]:List BA) dG iu (.inr ⟨_,iu⟩) wE hbd nofun λv9=>go 1 ?_
  refine WP.gh (l':=λ_:Unit=>[own az v9.1 ((S.take j).map (·.cC)++([(S.getD j default).cC]:List BA)),own Pos.K v5.1 S,iq Value.string bp.O v0_0.1 a0.aw,ar b0_ 274 [vS a0.cP,eq v0_0.1]]++F) (bL (py 5 [0,1,2,3,4] 1 kr Q Q)) (λ_ _=>?_)
  have e4:(S.take j).map (·.cC)++([(S.getD j default).cC]:List BA)=(S.take (j+1)).map (·.cC):=by rw [List.take_add_one,List.map_append,gD,gE hj];rfl
  rw [e4]
  refine rg 2 0<|rr Q Q Q (oE (a:=j) (b:=1) om)<|gq 1 ?_
  exact qt.mk (k-1) (j+1,v9) om (by show j+1+(k-1)=S.length;omega) (aH Q (aH Q (aH Q (aH Q dD)))) (List.Perm.refl _)
theorem dag_Dag_All.c {v0_0:OV} {b0_:Nat} (h:dag_Dag_All.f k a0=some r):Tr prog 279 [iT b0_] [ar b0_ 274 [vS a0.cP,eq v0_0.1],iq Value.string bp.O v0_0.1 a0.aw] (γ:=OV) (λ_=>True) (λg=>eq g.1) (λg=>[ar b0_ 274 [vS a0.cP,eq v0_0.1],iq Value.string bp.O v0_0.1 a0.aw,own Event.K g.1 r]):=by
 refine tf func279 h λR0 F H=>?_
 refine so<|so<|WP.kW H (λqa:(Int×Int×Bool×(List Event)×(List BA))×OV×OV=>qa.1) (λqa=>[(3,eq qa.2.1.1)]) (λqa=>[ar b0_ 274 [vS a0.cP,eq v0_0.1],iq Value.string bp.O v0_0.1 a0.aw,own Event.K qa.2.1.1 qa.1.2.2.2.1,own az qa.2.2.1 qa.1.2.2.2.2]++F) (λqa H=>?_) (λH=>?_)
 ·obtain⟨pa,va,vb⟩:=qa
  refine sp ?_
  cases H.out;exact et va 4 [3,0,1,2] 1
 refine wr 4 2<|go 1<|el H λta haa H=>cx 2 [0,1] (cL 290) (aT.c haa (b0_:=b0_) (v0_0:=v0_0)) nofun λgb _=>?_
 refine Dv.kl Q T Q (ab 2 Q) iu<|go 1<|WP.block<|wg (dX Event.K none) λ_ _=>?_
 refine ws 4 [1,2,3,0] 0 ?_
 refine lq (λj_ (pc:Int×(List Event)×OV)=>dag_Dag_All.l0 k a0 ta j_ pc.1 pc.2.1) (0,([]:List Event),iQ) H [0,7,8] (λpc=>[(3,eq pc.2.2.1),(9,vI pc.1)]) (λpc=>[(3,own Event.K pc.2.2.1 pc.2.1)]) ?_
 rintro j_ ⟨xa,xb,vd⟩ H
 rcases j_ with _ | ja
 ·exact(aW.no H).elim
 try dsimp only at H
 rw [dag_Dag_All.l0] at H
 refine so<|WP.seq<|cf H ?_ ?_ <;> intro H
 ·refine WP.exit ?_
  have H:=H.out
  refine ns 4 [0,1,3,2] 0 ?_
  exact jn (((ta.length:Int),xa,decide (xa<(ta.length:Int)),xb,ta),vd,gb) H
 refine WP.skip<|WP.seq<|WP.block<|wr 3 0<|gr H λgc H=>?_
 have hac:xa.toNat<ta.length:=cQ gc
 refine Dv.na Q T Q (ab 2 Q) Q iu U9 c9 gc.1 gc.2<|Dv.D5 (j:=xa.toNat) (f:=0) (p:=vS (ta.getD xa.toNat default)) Q T Q (ab 2 Q) hac U9 Q Q<|go 1<|rg 14 4096<|gl 6 [0]<|vg (kn 1 Q) λza had=>?_
 refine Dv.Be dK Q T Q (ab 0 Q) Q wy (dP U9) AU (λ_=>Q)<|gr H λgi H=>vg (oi had Q gi (pm 5 [1,0,2,3,4])) λ_ _=>?_
 refine Dv.mD bp.nn Q T Q (ab 0 Q)<|vg (bp.eF 0 Q) λgj hae=>?_
 refine fp hae Q T Q um<|gl 1 [0]<|el H λtc haf H=>cl Q (cL 155) Q (jF.c haf)<|Dv.lit Event.K ([tc]:List Event) (css:=[Event.enc tc]) Q T rN nb px z107 Q dc dc Q ⟨(bx (Event.K.one _)),T⟩ Q Q Q<|gr H λgk H=>ap Event.K 5 ([tc]:List Event) dG rN (.inr ⟨_,rN⟩) vC gk nofun λve=>?_
 refine go 1<|rg 2 0<|go 2<|ng (bp.shut (p:=((mget (aU a0.aw za) (ta.getD xa.toNat default)).getD dK)) (m:=(mget a0.aw (ta.getD xa.toNat default)).getD default) gj hae (pm 6 [0,1,2,3,4,5])) λ_ _=>?_
 refine ng (po had Q gi (pm 6 [0,1,2,3,4,5])) λ_ _=>?_
 refine ng (eL had Q (pm 5 [1,0,2,3,4])) λ_ _=>?_
 refine ns 4 [1,0,2,3] 0 ?_
 exact bk ja (aE (xa+1),xb++([tc]:List Event),ve) H
theorem member_joined.c {v0_0:OV} {b0_:Nat} (h:member_joined.f k a0=some r):Tr prog 238 [iT b0_] [ar b0_ 274 [vS a0.cP,eq v0_0.1],iq Value.string bp.O v0_0.1 a0.aw] (γ:=OV) (λ_=>True) (λg=>eq g.1) (λg=>[ar b0_ 274 [vS a0.cP,eq v0_0.1],iq Value.string bp.O v0_0.1 a0.aw,mp Value.string (λx:Int=>vI x) g.1 r]):=by
 refine tf func238 h λR0 F H=>?_
 refine so<|wr 2 1<|Dv.Gj Value.string (λx:Int=>vI x) Q T nofun (λva=>?_)
 refine go 1<|WP.kW H (λqa:(Int×Int×Bool×(List (BA×Int))×(List Event))×OV=>qa.1) (λqa=>[(3,eq va.1)]) (λqa=>[ar b0_ 274 [vS a0.cP,eq v0_0.1],iq Value.string bp.O v0_0.1 a0.aw,mp Value.string (λx:Int=>vI x) va.1 qa.1.2.2.2.1,own Event.K qa.2.1 qa.1.2.2.2.2]++F) (λqa H=>?_) (λH=>?_)
 ·obtain⟨pa,vb⟩:=qa
  refine sp ?_
  cases H.out;exact et va 4 [3,0,1,2] 1
 refine wr 4 2<|go 1<|el H λta haa H=>cx 3 [1,2,0] (cL 279) (dag_Dag_All.c haa (b0_:=b0_) (v0_0:=v0_0)) nofun λgb _=>?_
 refine Dv.kl Q T Q (ab 2 Q) rN<|go 1<|WP.block<|ws 4 [0,1,2,3] 0 ?_
 refine lq (λj_ (pc:Int×(List (BA×Int)))=>member_joined.l0 k ta j_ pc.1 pc.2) (0,([]:List (BA×Int))) H [3,8,9] (λpc=>[(10,vI pc.1)]) (λpc=>[(3,mp Value.string (λx:Int=>vI x) va.1 pc.2)]) ?_
 rintro j_ ⟨xa,xb⟩ H
 rcases j_ with _ | ja
 ·exact(aW.no H).elim
 try dsimp only at H
 rw [member_joined.l0] at H
 refine so<|WP.seq<|cf H ?_ ?_ <;> intro H
 ·refine WP.exit ?_
  have H:=H.out
  refine ns 4 [0,1,3,2] 0 ?_
  exact jn (((ta.length:Int),xa,decide (xa<(ta.length:Int)),xb,ta),gb) H
 refine WP.skip<|WP.seq<|WP.block<|wr 4 12<|gr H λgc H=>?_
 have hac:xa.toNat<ta.length:=cQ gc
 refine Dv.na Q T Q (ab 2 Q) Q rN nb px gc.1 gc.2<|Dv.kX (j:=xa.toNat) (f:=0) Q T Q (ab 2 Q) hac nb Q px (Nat.le_of_ble_eq_true Q)<|al Q T yY nofun λba=>sy 0 ?_
 refine .fin<|wu [0]<|WP.block<|so<|ce H ?_ ?_ <;> intro H
 ·refine rg 4 8<|gl 3 [0]<|Dv.Js (jj:=4) 1 Q T Q Q Q Q uc (dP U9) nofun<|.fin<|rg 2 0<|go 2<|ns 5 [0,1,2,3,4] 1 ?_
  exact bk ja (aE (xa+1),mput xb ((ta.getD xa.toNat default).aC) 1) H
 refine so<|cf H ?_ ?_ <;> intro H
 ·refine WP.skip<|rg 2 0<|go 2<|ns 5 [0,1,2,3,4] 1 ?_
  exact bk ja (aE (xa+1),xb) H
 refine rg 4 8<|gl 3 [0]<|Dv.mdl (jj:=4) Q T Q Q Q uc (dP U9) nofun<|.fin<|rg 2 0<|go 2<|ns 5 [0,1,2,3,4] 1 ?_
 exact bk ja (aE (xa+1),jV xb ((ta.getD xa.toNat default).aC)) H
theorem kO.c {v0_0:OV} {b0_:Nat} (h:kO.f k a0 a1=some r):Tr prog 189 [iT b0_,vS a1] [ar b0_ 274 [vS a0.cP,eq v0_0.1],iq Value.string bp.O v0_0.1 a0.aw] (γ:=Unit) (λ_=>True) (λg=>vB r) (λg=>[ar b0_ 274 [vS a0.cP,eq v0_0.1],iq Value.string bp.O v0_0.1 a0.aw]):=by
 refine tf func189 h λR0 F H=>?_
 refine so<|wr 6 2<|go 1<|el H λta haa H=>cx 2 [0,1] (cL 238) (member_joined.c haa (b0_:=b0_) (v0_0:=v0_0)) nofun λgb _=>?_
 refine go 1<|Dv.Be 0 Q T Q (ab 2 Q) Q uc (dP U9) z3 (λ_=>Q)<|gq 2 ?_
 cases H.out;exact et () 3 [2,0,1] 1
theorem de.c {v0_0:OV} {b0_:Nat} (h:de.f k a0 a1 a2=some r):Tr prog 118 [iT b0_,vS a1,vS a2] [ar b0_ 150 [eq v0_0.1],iq Value.string bM.O v0_0.1 a0.b9] (γ:=Unit) (λ_=>True) (λg=>vB r) (λg=>[ar b0_ 150 [eq v0_0.1],iq Value.string bM.O v0_0.1 a0.b9]):=by
 refine tf func118 h λR0 F H=>?_
 refine so<|wr 6 4<|go 2<|el H λta haa H=>cx 2 [0,1] (cL 92) (aV.c haa (b0_:=b0_) (v0_0:=v0_0)) nofun λva _=>?_
 refine go 1<|vg (bM.eF 2 Q) λgb hac=>?_
 refine el H λtc had H=>mH 4 [0,1,2,3] (cL 189) (Tr.fG (kO.c had (b0_:=gb.1) (v0_0:=gb.2)) (.cons (eb hac) (.cons cG .nil))) ?_
 refine go 1<|wg (bM.shut (p:=va) (m:=ta) (gb.1,gb.2) hac (pm 4 [0,1,2,3])) λ_ _=>?_
 refine wg (gI (aV.r haa) (pm 3 [2,0,1])) λ_ _=>?_
 cases H.out;exact et () 2 [1,0] 0
theorem lI.c (h:lI.f k a0=some r):Pt prog 129 [vS a0] (vS r):=by
 refine pf func129 h λR0 F H=>?_
 refine so<|WP.seq<|wr 8 0<|go 1<|el H λta haa H=>cl Q (cL 202) Q (lK.c haa)<|gp 2 ?_
 cases ca:!ta
 ·have H:=H.cf ca
  refine go 4<|WP.cond Q nofun (λ_=>?_)
  refine WP.skip<|wr 9 0<|go 1<|el H λtc hac H=>cl Q (cL 204) Q (gL.c hac)<|go 1<|dZ Q T Q Q<|dZ Q T Q Q<|dZ Q T Q Q<|go 3<|sp ?_
  cases H.out;exact ek 0
 have H:=H.ct ca
 refine go 1<|el H λte had H=>Dv.call Q (gg Q) (cL 203) Q (j5.c had)<|go 2<|ce H ?_ ?_ <;> intro H
 ·refine sp ?_
  cases H.out;exact ek 0
 refine WP.skip<|wr 9 0<|go 1<|el H λtg hae H=>cl Q (cL 204) Q (gL.c hae)<|go 1<|dZ Q T Q Q<|dZ Q T Q Q<|dZ Q T Q Q<|go 3<|sp ?_
 cases H.out;exact ek 0
theorem slices_DeleteFunc_string_xo.c {X1_:As} {p0_:OV} (h:slices_DeleteFunc_string_xo.f k a0 a1=some r):Tr prog 115 [eq p0_.1,mV X1_ a1] [own az p0_.1 a0,X1_] (γ:=OV) (λ_=>True) (λg=>eq g.1) (λg=>[X1_,own az g.1 r]):=by
 refine tf func115 h λR0 F H=>?_
 refine so<|wr 4 0<|go 2<|el H λta haa H=>mH 2 [0,1] (cL 187) (aX.c haa (p0_:=p0_) (X1_:=X1_)) ?_
 refine go 1<|WP.seq<|so<|ce H ?_ ?_ <;> intro H
 ·refine sp ?_
  cases H.out;exact et p0_ 2 [1,0] 0
 refine WP.skip<|sq H id [0] (λpa=>[(5,vI pa.1)]) (λpa=>[(0,own az p0_.1 pa.2.2.2)]) (λpa H=>?_) (λH=>?_)
 ·refine wr 4 8<|go 2<|gr H λgb H=>vg (oT 0 Q (List.length_pos_iff.1 (Nat.lt_of_le_of_lt (Nat.zero_le _) gb.2))) λgc hac=>?_
  refine Dv.sV (o':=gc.2.1+pa.1.toNat*az.sz) (m':=pa.2.2.2.length-pa.1.toNat) (c':=gc.2.2-pa.1.toNat) Q T ((show opv _ _=some (eq p0_.1) from Q).trans (congrArg (λz=>some (eq z)) hac.1)) iu U9 c9 (fg Q gb.1) dQ (Nat.le_of_lt gb.2) hac.2 (.inl (Nat.lt_of_lt_of_le gb.2 hac.2)) Q Q Q<|Dv.GJ (jj:=0) eE Q T Q iu z9 Q Q (λu hu=>by simp [Value.cells] at hu;subst hu;rfl) hac.1 Q gb.2 Q nofun<|.fin<|wr 4 4<|go 2<|gr H λgi H=>Dv.Jt (jj:=0) Q T Q Q iu U9 c9 dQ (fg Q gi.1) (.inl Q) gi.2.1 gi.2.2 nofun (λva=>?_)
  refine gq 1 ?_
  cases H.out;exact et va 2 [1,0] 0
 refine so<|WP.block<|ws 2 [0,1] 0 ?_
 refine lq (λj_ (pc:Int×Int×(List BA))=>slices_DeleteFunc_string_xo.l0 k a1 j_ pc.1 pc.2.1 pc.2.2) (ta,aE (ta+1),a0) H [0,1] (λpc=>[(5,vI pc.1),(6,vI pc.2.1)]) (λpc=>[(0,own az p0_.1 pc.2.2)]) ?_
 rintro j_ ⟨xa,xb,xc⟩ H
 rcases j_ with _ | ja
 ·exact(aW.no H).elim
 try dsimp only at H
 rw [slices_DeleteFunc_string_xo.l0] at H
 refine WP.seq<|wr 4 0<|go 2<|Dv.kl Q T Q (ab 0 Q) iu<|go 1<|cf H ?_ ?_ <;> intro H
 ·refine WP.exit ?_
  have H:=H.out
  exact jn (xa,xb,decide (xb<(xc.length:Int)),xc) H
 refine WP.skip<|WP.seq<|WP.block<|wr 5 0<|go 2<|gr H λgj H=>?_
 have had:xb.toNat<xc.length:=cQ gj
 refine Dv.na Q T Q (ab 0 Q) Q iu U9 c9 gj.1 gj.2<|Dv.D5 (j:=xb.toNat) (f:=0) (p:=vS (xc.getD xb.toNat default)) Q T Q (ab 0 Q) had U9 Q Q<|go 1<|wr 4 0<|go 2<|el H λtc hae H=>Dv.qT (ret:=vB tc) (X:=X1_) (F:=[own az p0_.1 xc]++F) Q T Q Q ⟨_,_,hae,Q,Q⟩ (bN (L:=[own az p0_.1 xc,X1_]) (F:=F) [1,0] Q Q Q)<|go 1<|cf H ?_ ?_ <;> intro H
 ·exact WP.skip<|rg 3 0<|go 3<|bk ja (xa,aE (xb+1),xc) H
 refine wr 5 16<|go 3<|gr H λgk H=>?_
 have haf:xa.toNat<xc.length:=cQ gk
 exact Dv.na Q T Q (ab 0 Q) Q iu U9 c9 gk.1 gk.2<|Dv.Ff (j:=xa.toNat) (f:=0) (jj:=0) (xc.getD xb.toNat default) Q T Q Q (cells_one (ai Q)) U9 c9 Q Q haf (Nat.le_of_ble_eq_true Q) Q nofun<|.fin<|rg 3 0<|go 3<|rg 3 0<|go 3<|bk ja (aE (xa+1),aE (xb+1),xc.set xa.toNat (xc.getD xb.toNat default)) H
theorem slices_Sort_string.c {p0_:OV} (h:slices_Sort_string.f a0=some r):Tr prog 67 [eq p0_.1] [own az p0_.1 a0] (γ:=Unit) (λ_=>True) (λg=>lg []) (λg=>[own az p0_.1 r]):=by
 unfold slices_Sort_string.f at h
 obtain⟨h0,h5⟩:=(aW.of h).aF
 obtain rfl:=aW.out h5
 exact F8 (λar off cap ss w=>Go.Proofs.Any.slices_Sort_string Tryz.lays190 ar off cap ss w) (λq cap w=>Go.Proofs.Any.slices_Sort_string_none Tryz.lays190 q cap w) h0
theorem kK.c {b0_:Nat} {v0_0:OV} (h:kK.f a0=some r):Tr prog 205 [iT b0_] [ar b0_ 150 [eq v0_0.1],iq Value.string bM.O v0_0.1 a0.b9] (γ:=OV) (λ_=>True) (λg=>eq g.1) (λg=>[ar b0_ 150 [eq v0_0.1],iq Value.string bM.O v0_0.1 a0.b9,own az g.1 r]):=by
  unfold kK.f at h
  obtain⟨h0,h5⟩:=(aW.of h).aF
  obtain rfl:=aW.out h5
  clear h h5
  refine Tr.body func205 (c:=_) Q ntmps205 (Nat.le_of_ble_eq_true Q) λR0 F=>?_
  refine so<|sp ?_
  refine WP.xX (β:=List Nat×OV) (λb=>b.1.Perm (List.range a0.b9.length)) (λb=>[(3,eq b.2.1)]) (λb=>[own az b.2.1 (eD a0.b9 (λe=>some e.1) b.1),ar b0_ 150 [eq v0_0.1],iq Value.string bM.O v0_0.1 a0.b9]++F) (λb hb=>?_) ?_
  rotate_left
  · refine wr 5 16<|jf 4 [0] ?_
    refine Dv.gh (l':=λps:List OV=>[mp Value.string (λp:OV=>eq p.1) v0_0.1 (aU a0.b9 ps),lQ bM.O a0.b9 ps,ar b0_ 150 [eq v0_0.1]]++F) (bL (kn 1 Q)) (λps hps=>?_)
    refine Dv.Jp (jj:=0) Q T Q Q CT nofun (λq=>.fin ?_)
    refine WP.gh (l':=λ_:Unit=>[kG Value.string (λp:OV=>eq p.1) v0_0.1 q.1 (aU a0.b9 ps) [],lQ bM.O a0.b9 ps,ar b0_ 150 [eq v0_0.1]]++F) (bL (ok:=λ_=>True) λR w k=>⟨(),T,k⟩) (λ_ _=>?_)
    refine WP.gh (l':=λ_:Unit=>[own az iQ.1 [],kG Value.string (λp:OV=>eq p.1) v0_0.1 q.1 (aU a0.b9 ps) [],lQ bM.O a0.b9 ps,ar b0_ 150 [eq v0_0.1]]++F) (bL (dX az none)) (λ_ _=>?_)
    refine WP.block ?_
    refine WP.fG (E':=(λb:List Nat×OV=>[(3,eq b.2.1),(9,eq q.1)]) ([],iQ)) (aH Q (aH Q dD)) (WP.loop (β:=List Nat×OV) (λk b=>b.1.length+k=a0.b9.length) (λb=>[(3,eq b.2.1),(9,eq q.1)]) (λb=>[own az b.2.1 (eD a0.b9 (λe=>some e.1) b.1),kG Value.string (λp:OV=>eq p.1) v0_0.1 q.1 (aU a0.b9 ps) b.1,lQ bM.O a0.b9 ps,ar b0_ 150 [eq v0_0.1]]++F) ?_ (k:=a0.b9.length) (b:=([],iQ)) (Nat.zero_add _))
    rintro k ⟨is,v⟩ hk
    replace hk:is.length+k=a0.b9.length:=hk
    refine wr 2 1<|Dv.Jg (jj:=1) Q T Q Q nofun (λz hz=>?_)
    rcases z with _ | j
    · have hz:is.Perm (List.range (aU a0.b9 ps).length):=hz
      rw [mR hps.1] at hz
      refine dZ Q T Q Q<|.fin<|WP.seq<|WP.cond Q nofun (λ_=>WP.exit ?_)
      refine Dn.gh (l':=λ_:Unit=>[own az v.1 (eD a0.b9 (λe=>some e.1) is),kG Value.string (λp:OV=>eq p.1) v0_0.1 q.1 (aU a0.b9 ps) is,lQ bM.O a0.b9 ps,ar b0_ 150 [eq v0_0.1]]++F) (bL (ok:=λ_=>True) λR w k=>⟨(),T,k⟩) (λ_ _=>?_)
      refine Dn.gh (l':=λ_:Unit=>[mp Value.string (λp:OV=>eq p.1) v0_0.1 (aU a0.b9 ps),own az v.1 (eD a0.b9 (λe=>some e.1) is),lQ bM.O a0.b9 ps,ar b0_ 150 [eq v0_0.1]]++F) (bL (rB (pm 4 [1,0,2,3]))) (λ_ _=>?_)
      refine Dn.gh (l':=λ_:Unit=>[iq Value.string bM.O v0_0.1 a0.b9,own az v.1 (eD a0.b9 (λe=>some e.1) is),ar b0_ 150 [eq v0_0.1]]++F) (bL (eL hps Q (pm 4 [0,2,1,3]))) (λ_ _=>?_)
      exact Jn.mk (is,v) hz (aH Q dD) (pN 3 [1,2,0] kr Q Q)
    have hz:j<(aU a0.b9 ps).length/\j ∉ is/\is.length<(aU a0.b9 ps).length:=hz
    obtain⟨e,p,he,hp,hep⟩:=r6 hps hz.1
    have hlt:is.length<a0.b9.length:=by rw [<- mR hps.1];exact hz.2.2
    have hsl:=Nat.le_trans (qJ (m:=a0.b9) (f:=(λe=>some e.1)) (is:=is)) (Nat.le_of_lt hlt)
    have e1:nxV Value.string (λp:OV=>eq p.1) (aU a0.b9 ps) (some j)=lg [vB true,vS e.1,eq p.1]:=by simp only [nxV,hep]
    rw [e1]
    refine dZ Q T Q Q<|.fin<|WP.seq<|WP.cond Q (λ_=>WP.skip ?_) nofun
    refine WP.gh (l':=λ_:Unit=>[own az v.1 (eD a0.b9 (λe=>some e.1) is),kG Value.string (λp:OV=>eq p.1) v0_0.1 q.1 (aU a0.b9 ps) (is++[j]),lQ bM.O a0.b9 ps,ar b0_ 150 [eq v0_0.1]]++F) (bL (ok:=λ_=>True) λR w k=>⟨(),T,k⟩) (λ_ _=>?_)
    refine WP.block<|wr 3 0<|Dv.Jr 1 Q T Q Q hep ?_
    refine dZ Q T Q Q<|gq 1 ?_
    have e6:=o7 (f:=(λe=>some e.1)) (is:=is) he rfl
    have hbd:(eD a0.b9 (λe=>some e.1) is).length+([e.1]:List BA).length<=9223372036854775807/\((eD a0.b9 (λe=>some e.1) is).length+([e.1]:List BA).length)*16<=140737488355328:=by rw [List.length_singleton];omega
    refine rg 5 8<|go 2<|Dv.lit az ([e.1]:List BA) (css:=[[vS e.1]]) Q T iu U9 c9 z9 Q dc dc Q ⟨(cells_one (ai Q)),T⟩ Q Q Q<|ap az 0 ([e.1]:List BA) dG iu (.inr ⟨_,iu⟩) wE hbd nofun λv9=>go 1 ?_
    rw [e6]
    exact qt.mk (k-1) (is++[j],v9) om (by show(is++[j]).length+(k-1)=_;rw [List.length_append,List.length_singleton];omega) (aH Q (aH Q dD)) (List.Perm.refl _)
  obtain⟨is,v3⟩:=b
  replace hb:is.Perm (List.range a0.b9.length):=hb
  have hp:=pP (f:=(λe=>some e.1)) hb
  have hs:slices_Sort_string.f (eD a0.b9 (λe=>some e.1) is)=some (aY (a0.b9.map (·.1))):=by
    have e7:a0.b9.filterMap (λe=>some e.1)=a0.b9.map (·.1):=by rw [<- List.filterMap_eq_map];rfl
    rw [e7] at hp
    unfold slices_Sort_string.f Sp.aF
    rw [if_pos (by rw [hp.length_eq,List.length_map];omega),xG hp]
  refine wr 2 2<|go 1<|cx 3 [0,1,2] (cL 67) (slices_Sort_string.c hs (p0_:=v3)) nofun λ_ _=>.fin ?_
  refine so<|rt i2 Q v3 3 [1,2,0] 0 (.cons (aQ Q) .nil)
theorem iM.c {cb0_ cd0_:Nat} {cq0_ cv0_0:OV} {ch0_:cq0_.1 = .pointer (some ⟨cd0_,0,none⟩)} {c0:au} {c1:BA} (h:iM.f k a0 c0 c1=some r):Tr prog 206 [vS a0,iT cb0_,rp [vS c1]] [ar cb0_ 33 [eq cq0_.1],ar cd0_ 150 [eq cv0_0.1],iq Value.string bM.O cv0_0.1 c0.b9] (γ:=Unit) (λ_=>True) (λg=>vB r) (λg=>[ar cb0_ 33 [eq cq0_.1],ar cd0_ 150 [eq cv0_0.1],iq Value.string bM.O cv0_0.1 c0.b9]):=by
 refine tf func206 h λR0 F H=>?_
 refine so<|wr 6 0<|gl 2 [0]<|nK Q T Q o6 Q<|el H λta haa H=>mH 3 [1,2,0] (cL 118) (Tr.fG (de.c haa (b0_:=cd0_) (v0_0:=cv0_0)) (.cons (eb ch0_) (.cons cG (.cons cG .nil)))) ?_
 refine gq 2 ?_
 cases H.out;exact et () 3 [0,1,2] 0
theorem gG.c {p0_:OV} (h:gG.f k a0 a1=some r):Tr prog 130 [eq p0_.1,vS a1] [au.O p0_ a0] (γ:=OV) (λ_=>True) (λg=>eq g.1) (λg=>[au.O p0_ a0,own az g.1 r]):=by
 refine tf func130 h λR0 F H=>?_
 refine wr 3 3<|Dv.box Q T Q (cells_one cS) nofun λba=>Dv.box Q T Q cE nofun λbc=>go 1<|wr 5 10<|gl 1 [1]<|vg (au.eF 2 Q) λgb haa=>?_
 refine el H λta hac H=>cx 4 [0,1,2,3] (cL 205) (Tr.fG (kK.c hac (b0_:=gb.1) (v0_0:=gb.2)) (.cons (eb haa) .nil)) nofun λgc _=>?_
 refine Dv.gh (nB (E':=[(0,eq p0_.1),(1,vS a1),(2,iT ba),(3,rp [vS a1]),(4,jQ),(6,eq gc.1)]) (l':=[ar gb.1 150 [eq gb.2.1],iq Value.string bM.O gb.2.1 a0.b9,own az gc.1 ta,ar ba 33 [eq p0_.1]]++F) 3 Q (ao Q aB (ao Q aB (ao Q aB (ao Q jx (ao Q aB (ao Q aB iG)))))) (fI (.cons bn (.cons bn (.cons bn (.cons bn .nil)))) λ_=>bn)) (λ_ _=>?_)
 refine Dv.Im (Q:=kJ (λa0_=>iM.f k a0_ a0 a1)) (L:=[ar ba 33 [eq p0_.1],ar gb.1 150 [eq gb.2.1],iq Value.string bM.O gb.2.1 a0.b9]) (cL 206) (by rintro _ _ ⟨a0_,r_,h_,rfl,rfl⟩;exact iM.c h_ (cb0_:=ba) (cq0_:=p0_) (cd0_:=gb.1) (ch0_:=haa) (cv0_0:=gb.2)) Q T Q Q<|el H λtc had H=>cx 4 [2,3,0,1] (cL 115) (Tr.zF (A:=[own az gc.1 ta]) (L:=[ar ba 33 [eq p0_.1],ar gb.1 150 [eq gb.2.1],iq Value.string bM.O gb.2.1 a0.b9]) (B:=λgi:OV=>[own az gi.1 tc]) (slices_DeleteFunc_string_xo.c had (p0_:=gc) (X1_:=(pk [ar ba 33 [eq p0_.1],ar gb.1 150 [eq gb.2.1],iq Value.string bM.O gb.2.1 a0.b9])))) nofun λgi _=>?_
 refine go 1<|wg (au.shut (p:=p0_) (m:=a0) (gb.1,gb.2) haa (pm 4 [1,2,0,3])) λ_ _=>?_
 cases H.out;exact et gi 3 [1,0,2] 1
theorem eY.c {p0_:OV} (h:eY.f a0 a1=some r):Tr prog 207 [eq p0_.1,agg (aM.enc a1)] [gP.O p0_ a0] (γ:=Unit) (λ_=>True) (λg=>lg [agg (Pos.enc r.1),vB r.2]) (λg=>[gP.O p0_ a0]):=by
 refine tf func207 h λR0 F H=>?_
 refine wr 3 3<|Dv.box Q T Q cA nofun λba=>al Q T nu nofun λbc=>go 1<|WP.seq<|wg (gP.eF 2 Q) λgb haa=>?_
 refine dg mX 12 1536<|go 1<|Dv.aJ haa Q T Q<|fp haa Q T Q rX<|gl 2 [0,3]<|Dv.IQ (⟨0,eE⟩:Pos) Q T Q (ab 1 Q) Q (aM.kq a1) CO BD z49 (λ_=>⟨_,Q,Cs.Jo Q⟩)<|go 1<|dZ Q T Q Q<|dZ Q T Q Q<|al Q T nu pD λbd=>sx 0 Q T Q Q cA vZ Q Q Q pD ?_
 refine go 1<|wr 4 4<|gl 2 [0]<|sy 3 ?_
 refine go 1<|wg (gP.shut (p:=p0_) (m:=a0) (gb.1,gb.2) haa (pm 5 [1,2,0,3,4])) λ_ _=>?_
 cases H.out;exact rt i2 Q () 4 [1,2,3,0] 3 (.cons (aL Q uA Q yF (ab 2 Q) Q) (.cons (aQ Q) .nil))
theorem ea.c {p0_:OV} (h:ea.f k a0 a1=some r):Tr prog 131 [eq p0_.1,agg (ak.enc a1)] [bY.O p0_ a0] (γ:=Unit) (λ_=>True) (λg=>vI r) (λg=>[bY.O p0_ a0]):=by
 unfold ea.f at h
 refine tb func131 ntmps131 h λR0 F H=>?_
 refine WP.seq<|rg 2 1<|Dv.box Q T Q cA nofun λba=>Ad Q Q<|.fin<|WP.seq<|WP.seq<|wg (bY.eF 1 Q) λgb haa=>?_
 refine wg (au.eF 3 Q) λgc hac=>?_
 refine dg mX 13 0<|zS Q Q<|Dv.aJ haa Q T Q<|fp haa Q T Q iS<|fb Q T Q DC<|ld 2 Q T Q sc33 Q Q<|fb Q T Q Az<|ld 11 Q T Q o6 Q Q<|fb Q T Q zV<|ld 11 Q T Q o6 Q Q<|fb Q T Q Ij<|ld 11 Q T Q o6 Q Q<|el H λta had H=>mH 12 [0,1,2,3,4,5,6,7,8,9,10,11] (cL 157) (Tr.fG (eK.c had (b0_:=gc.1) (v0_0:=gc.2)) (.cons (eb hac) (.cons cG (.cons cG (.cons cG .nil))))) ?_
 refine Ad Q Q<|.fin<|WP.seq<|rg 2 0<|zS Q Q<|rr Q Q Q DX<|.fin<|cd H Q (λ_ H=>?_) (λ_ H=>?_)
 ·refine WP.seq<|rg 2 0<|zS Q Q<|Ad Q Q<|.fin<|wg (au.shut (p:=gb.2.2.2.1) (m:=a0.fall.aK) (gc.1,gc.2) hac (pm 12 [0,1,2,3,4,5,6,7,8,9,10,11])) λ_ _=>?_
  refine wg (bY.shut (p:=p0_) (m:=a0) (gb.1,gb.2.1,gb.2.2.1,gb.2.2.2.1,gb.2.2.2.2.1,gb.2.2.2.2.2.1,gb.2.2.2.2.2.2.1,gb.2.2.2.2.2.2.2.1,gb.2.2.2.2.2.2.2.2.1,gb.2.2.2.2.2.2.2.2.2) haa (pm 11 [1,2,3,0,4,5,6,7,8,9,10])) λ_ _=>?_
  cases H.out;exact rt i2 Q () 2 [1,0] 1 (.cons (aQ Q) .nil)
 refine WP.skip<|WP.seq<|dg mX 16 24576<|zS Q Q<|Dv.aJ haa Q T Q<|fp haa Q T Q iS<|fb Q T Q DC<|ld 2 Q T Q sc33 Q Q<|fb Q T Q Az<|ld 11 Q T Q o6 Q Q<|fb Q T Q zV<|ld 11 Q T Q o6 Q Q<|el H λtc hae H=>mH 12 [0,1,2,3,4,5,6,7,8,9,10,11] (cL 94) (Tr.fG (dN.c hae (b0_:=gc.1) (v0_0:=gc.2)) (.cons (eb hac) (.cons cG (.cons cG .nil)))) ?_
 refine zS Q Q<|dZ Q T Q Q<|dZ Q T Q Q<|al Q T nu (λ_=>(eB (λ_=>T) (eB (λ_=>T) (eB (λ_=>T) (eB (λbc=>qV (L:=[ar bc 49 [vI 0,vS eE],ar gc.1 150 [eq gc.2.1],iq Value.string bM.O gc.2.1 a0.fall.aK.b9,ar gb.1 102 [vS a0.av,eq gb.2.1.1,eq gb.2.2.1.1,eq gb.2.2.2.1.1,eq gb.2.2.2.2.1.1,eq gb.2.2.2.2.2.1.1,eq gb.2.2.2.2.2.2.1.1,eq gb.2.2.2.2.2.2.2.1.1,eq gb.2.2.2.2.2.2.2.2.1.1,eq gb.2.2.2.2.2.2.2.2.2.1],bI.O gb.2.1 a0.aG,bI.O gb.2.2.1 a0.aq,dE.O gb.2.2.2.2.1 a0.fall.aA,bG.O gb.2.2.2.2.2.1 a0.fall.ax,bJ.O gb.2.2.2.2.2.2.1 a0.fall.an,bE.O gb.2.2.2.2.2.2.2.1 a0.fall.bQ,Seen.O gb.2.2.2.2.2.2.2.2.1 a0.aI,iq Value.string aO.O gb.2.2.2.2.2.2.2.2.2.1 a0.aa,ar ba 80 (ak.enc a1)]) (F:=F) ([ar bc 49 [vI 0,vS eE],ar gb.1 102 [vS a0.av,eq gb.2.1.1,eq gb.2.2.1.1,eq gb.2.2.2.1.1,eq gb.2.2.2.2.1.1,eq gb.2.2.2.2.2.1.1,eq gb.2.2.2.2.2.2.1.1,eq gb.2.2.2.2.2.2.2.1.1,eq gb.2.2.2.2.2.2.2.2.1.1,eq gb.2.2.2.2.2.2.2.2.2.1],bI.O gb.2.1 a0.aG,bI.O gb.2.2.1 a0.aq,dE.O gb.2.2.2.2.1 a0.fall.aA,bG.O gb.2.2.2.2.2.1 a0.fall.ax,bJ.O gb.2.2.2.2.2.2.1 a0.fall.an,bE.O gb.2.2.2.2.2.2.2.1 a0.fall.bQ,Seen.O gb.2.2.2.2.2.2.2.2.1 a0.aI,iq Value.string aO.O gb.2.2.2.2.2.2.2.2.2.1 a0.aa,ar ba 80 (ak.enc a1)]++F) [1,2,0,3,4,5,6,7,8,9,10,11,12] kr Q Q) (eB (λ_=>(ab 12 Q)) (eB (λ_=>T) (eB (λ_=>(ab 12 Q)) (eB (λ_=>T) (eB (λ_=>(ab 3 Q)) (eB (λ_=>T) (eB (λ_=>T) (eB (λ_=>T) (eB (λ_=>T) qI)))))))))))))) λbc=>sx 0 Q T Q Q cA vZ Q Q Q (λ_=>(eB (λ_=>T) (dB kr (dB kr (dB kr (dB kr (dB kr (dB kr (dB kr (dB kr (dB kr (dB kr (dB kr (dB kr qI)))))))))))))) ?_
 refine Ad Q Q<|.fin<|WP.seq<|rg 2 1<|el H λte haf H=>cx 13 [0,1,2,3,4,5,6,7,8,9,10,11,12] (cL 59) (mj.c haf) nofun λgi _=>?_
 refine Ad Q Q<|.fin<|WP.seq<|WP.seq<|wg (dE.eF 7 Q) λgj hag=>?_
 refine WP.Jh (kf:=14) mX [(0,false),(1,false),(2,false),(3,false),(4,false),(5,false),(6,false),(7,false),(8,false),(9,false),(10,true),(11,false),(12,false),(13,false)] [(15,true),(16,false)] Q kr<|zS Q Q<|Dv.aJ haa Q T Q<|fp haa Q T Q iS<|fb Q T Q Iv<|ld 7 Q T Q sc88 Q Q<|Dv.aJ hag Q T Q<|fp hag Q T Q xF<|ld 0 Q T Q sc120 Q Q<|CH 15 Q T Q nP Q Q<|el H λtg hah H=>cl Q (cL 98) Q (fi.c hah)<|Dv.float ?_ (λhk_=>?_)
 ·refine qn Q T nu (mA (λ_=>T) (mA (λ_=>ab 16 Q) (mA (λ_=>ab 1 Q) (mA (λ_=>T) (mA (λ_=>T) (mA (λ_=>ab 8 Q) (mA (λ_=>T) (mA (λ_=>T) (mA (λ_=>T) (mA (λ_=>T) IB)))))))))) (λbd=>?_)
  refine el H λtj hai H=>cx 17 [2,0,1,3,4,5,6,7,8,9,10,11,12,13,14,15,16] (cL 207) (eY.c hai (p0_:=gj.2.1)) pC λ_ _=>?_
  refine zS Q Q<|dZ Q T Q Q<|dZ Q T Q Q<|sx 1 Q T Q Q cA vZ Q Q Q (λ_=>(eB (λ_=>T) (dB kr (dB kr (dB kr (dB kr (dB kr (dB kr (dB kr (dB kr (dB kr (dB kr (dB kr (dB kr qI)))))))))))))) ?_
  refine Ad Q Q<|.fin<|WP.seq<|rg 1 0<|zS Q Q<|.fin<|cd H Q (λ_ H=>?_) (λ_ H=>?_)
  rotate_left
  ·refine WP.skip<|WP.seq<|WP.seq<|dg mX 6 16<|zS Q Q<|CH 16 Q T Q nP Q Q<|el H λtm haj H=>cl Q (cL 98) Q (fi.c haj)<|CH 5 Q T Q zy Q Q<|el H λtn hak H=>cx 17 [4,0,1,2,3,5,6,7,8,9,10,11,12,13,14,15,16] (cL 159) (cM.c hak (p0_:=gi)) pC λ_ _=>?_
   refine un0 Q Q (rk _)<|.fin<|cd H Q (λ_ H=>?_) (λ_ H=>?_)
   ·refine WP.seq<|rg 1 0<|Ad Q Q<|.fin<|wg (au.shut (p:=gb.2.2.2.1) (m:=a0.fall.aK) (gc.1,gc.2) hac (pm 17 [6,7,0,1,2,3,4,5,8,9,10,11,12,13,14,15,16])) λ_ _=>?_
    refine wg (dE.shut (p:=gb.2.2.2.2.1) (m:=a0.fall.aA) (gj.1,gj.2.1,gj.2.2) hag (pm 16 [4,2,5,0,1,3,6,7,8,9,10,11,12,13,14,15])) λ_ _=>?_
    refine wg (bY.shut (p:=p0_) (m:=a0) (gb.1,gb.2.1,gb.2.2.1,gb.2.2.2.1,gb.2.2.2.2.1,gb.2.2.2.2.2.1,gb.2.2.2.2.2.2.1,gb.2.2.2.2.2.2.2.1,gb.2.2.2.2.2.2.2.2.1,gb.2.2.2.2.2.2.2.2.2) haa (pm 14 [5,6,7,1,0,8,9,10,11,12,2,3,4,13])) λ_ _=>?_
    cases H.out;exact rt i2 Q () 5 [1,2,3,4,0] 4 (.cons (aQ Q) .nil)
   refine WP.skip<|WP.seq<|rg 1 0<|Ad Q Q<|.fin<|wg (au.shut (p:=gb.2.2.2.1) (m:=a0.fall.aK) (gc.1,gc.2) hac (pm 17 [6,7,0,1,2,3,4,5,8,9,10,11,12,13,14,15,16])) λ_ _=>?_
   refine wg (dE.shut (p:=gb.2.2.2.2.1) (m:=a0.fall.aA) (gj.1,gj.2.1,gj.2.2) hag (pm 16 [4,2,5,0,1,3,6,7,8,9,10,11,12,13,14,15])) λ_ _=>?_
   refine wg (bY.shut (p:=p0_) (m:=a0) (gb.1,gb.2.1,gb.2.2.1,gb.2.2.2.1,gb.2.2.2.2.1,gb.2.2.2.2.2.1,gb.2.2.2.2.2.2.1,gb.2.2.2.2.2.2.2.1,gb.2.2.2.2.2.2.2.2.1,gb.2.2.2.2.2.2.2.2.2) haa (pm 14 [5,6,7,1,0,8,9,10,11,12,2,3,4,13])) λ_ _=>?_
   cases H.out;exact rt i2 Q () 5 [1,2,3,4,0] 4 (.cons (aQ Q) .nil)
  refine dg mX 5 16<|zS Q Q<|CH 16 Q T Q nP Q Q<|el H λtp ham H=>cl Q (cL 98) Q (fi.c ham)<|CH 1 Q T Q zy Q Q<|el H λtq han H=>cx 17 [4,0,1,2,3,5,6,7,8,9,10,11,12,13,14,15,16] (cL 159) (cM.c han (p0_:=gi)) pC λ_ _=>?_
  refine .fin<|WP.seq<|WP.seq<|dg mX 6 16<|zS Q Q<|CH 16 Q T Q nP Q Q<|el H λtu hao H=>cl Q (cL 98) Q (fi.c hao)<|CH 5 Q T Q zy Q Q<|el H λtv hap H=>cx 17 [0,1,2,3,4,5,6,7,8,9,10,11,12,13,14,15,16] (cL 159) (cM.c hap (p0_:=gi)) pC λ_ _=>?_
  refine un0 Q Q (rk _)<|.fin<|cd H Q (λ_ H=>?_) (λ_ H=>?_)
  ·refine WP.seq<|rg 1 0<|Ad Q Q<|.fin<|wg (au.shut (p:=gb.2.2.2.1) (m:=a0.fall.aK) (gc.1,gc.2) hac (pm 17 [6,7,0,1,2,3,4,5,8,9,10,11,12,13,14,15,16])) λ_ _=>?_
   refine wg (dE.shut (p:=gb.2.2.2.2.1) (m:=a0.fall.aA) (gj.1,gj.2.1,gj.2.2) hag (pm 16 [4,2,5,0,1,3,6,7,8,9,10,11,12,13,14,15])) λ_ _=>?_
   refine wg (bY.shut (p:=p0_) (m:=a0) (gb.1,gb.2.1,gb.2.2.1,gb.2.2.2.1,gb.2.2.2.2.1,gb.2.2.2.2.2.1,gb.2.2.2.2.2.2.1,gb.2.2.2.2.2.2.2.1,gb.2.2.2.2.2.2.2.2.1,gb.2.2.2.2.2.2.2.2.2) haa (pm 14 [5,6,7,1,0,8,9,10,11,12,2,3,4,13])) λ_ _=>?_
   cases H.out;exact rt i2 Q () 5 [1,2,3,4,0] 4 (.cons (aQ Q) .nil)
  refine WP.skip<|WP.seq<|rg 1 0<|Ad Q Q<|.fin<|wg (au.shut (p:=gb.2.2.2.1) (m:=a0.fall.aK) (gc.1,gc.2) hac (pm 17 [6,7,0,1,2,3,4,5,8,9,10,11,12,13,14,15,16])) λ_ _=>?_
  refine wg (dE.shut (p:=gb.2.2.2.2.1) (m:=a0.fall.aA) (gj.1,gj.2.1,gj.2.2) hag (pm 16 [4,2,5,0,1,3,6,7,8,9,10,11,12,13,14,15])) λ_ _=>?_
  refine wg (bY.shut (p:=p0_) (m:=a0) (gb.1,gb.2.1,gb.2.2.1,gb.2.2.2.1,gb.2.2.2.2.1,gb.2.2.2.2.2.1,gb.2.2.2.2.2.2.1,gb.2.2.2.2.2.2.2.1,gb.2.2.2.2.2.2.2.2.1,gb.2.2.2.2.2.2.2.2.2) haa (pm 14 [5,6,7,1,0,8,9,10,11,12,2,3,4,13])) λ_ _=>?_
  cases H.out;exact rt i2 Q () 5 [1,2,3,4,0] 4 (.cons (aQ Q) .nil)
 refine el H λtw haq H=>cx 16 [1,0,2,3,4,5,6,7,8,9,10,11,12,13,14,15] (cL 207) (eY.c haq (p0_:=gj.2.1)) pC λ_ _=>?_
 refine zS Q Q<|dZ Q T Q Q<|dZ Q T Q Q<|.fin<|qn Q T nu (mA (λ_=>T) (mA (λ_=>T) (mA (λ_=>T) (gQ kr (gQ kr (gQ kr (gQ kr (gQ kr (gQ kr (gQ kr (gQ kr (gQ kr (gQ kr IB))))))))))))) (λbe=>?_)
 refine sx 0 Q T Q Q cA vZ Q Q Q (λ_=>(eB (λ_=>T) (dB kr (dB kr (dB kr (dB kr (dB kr (dB kr (dB kr (dB kr (dB kr (dB kr (dB kr (dB kr qI)))))))))))))) ?_
 refine Ad Q Q<|.fin<|WP.seq<|rg 1 0<|zS Q Q<|.fin<|cd H Q (λ_ H=>?_) (λ_ H=>?_)
 rotate_left
 ·refine WP.skip<|WP.seq<|WP.seq<|dg mX 6 16<|zS Q Q<|CH 16 Q T Q nP Q Q<|el H λtm haj H=>cl Q (cL 98) Q (fi.c haj)<|CH 5 Q T Q zy Q Q<|el H λtn hak H=>cx 17 [4,0,1,2,3,5,6,7,8,9,10,11,12,13,14,15,16] (cL 159) (cM.c hak (p0_:=gi)) pC λ_ _=>?_
  refine un0 Q Q (rk _)<|.fin<|cd H Q (λ_ H=>?_) (λ_ H=>?_)
  ·refine WP.seq<|rg 1 0<|Ad Q Q<|.fin<|wg (au.shut (p:=gb.2.2.2.1) (m:=a0.fall.aK) (gc.1,gc.2) hac (pm 17 [6,7,0,1,2,3,4,5,8,9,10,11,12,13,14,15,16])) λ_ _=>?_
   refine wg (dE.shut (p:=gb.2.2.2.2.1) (m:=a0.fall.aA) (gj.1,gj.2.1,gj.2.2) hag (pm 16 [4,3,5,0,1,2,6,7,8,9,10,11,12,13,14,15])) λ_ _=>?_
   refine wg (bY.shut (p:=p0_) (m:=a0) (gb.1,gb.2.1,gb.2.2.1,gb.2.2.2.1,gb.2.2.2.2.1,gb.2.2.2.2.2.1,gb.2.2.2.2.2.2.1,gb.2.2.2.2.2.2.2.1,gb.2.2.2.2.2.2.2.2.1,gb.2.2.2.2.2.2.2.2.2) haa (pm 14 [5,6,7,1,0,8,9,10,11,12,2,3,4,13])) λ_ _=>?_
   cases H.out;exact rt i2 Q () 5 [1,2,3,4,0] 4 (.cons (aQ Q) .nil)
  refine WP.skip<|WP.seq<|rg 1 0<|Ad Q Q<|.fin<|wg (au.shut (p:=gb.2.2.2.1) (m:=a0.fall.aK) (gc.1,gc.2) hac (pm 17 [6,7,0,1,2,3,4,5,8,9,10,11,12,13,14,15,16])) λ_ _=>?_
  refine wg (dE.shut (p:=gb.2.2.2.2.1) (m:=a0.fall.aA) (gj.1,gj.2.1,gj.2.2) hag (pm 16 [4,3,5,0,1,2,6,7,8,9,10,11,12,13,14,15])) λ_ _=>?_
  refine wg (bY.shut (p:=p0_) (m:=a0) (gb.1,gb.2.1,gb.2.2.1,gb.2.2.2.1,gb.2.2.2.2.1,gb.2.2.2.2.2.1,gb.2.2.2.2.2.2.1,gb.2.2.2.2.2.2.2.1,gb.2.2.2.2.2.2.2.2.1,gb.2.2.2.2.2.2.2.2.2) haa (pm 14 [5,6,7,1,0,8,9,10,11,12,2,3,4,13])) λ_ _=>?_
  cases H.out;exact rt i2 Q () 5 [1,2,3,4,0] 4 (.cons (aQ Q) .nil)
 refine dg mX 5 16<|zS Q Q<|CH 16 Q T Q nP Q Q<|el H λtp ham H=>cl Q (cL 98) Q (fi.c ham)<|CH 0 Q T Q zy Q Q<|el H λtq han H=>cx 17 [4,0,1,2,3,5,6,7,8,9,10,11,12,13,14,15,16] (cL 159) (cM.c han (p0_:=gi)) pC λ_ _=>?_
 refine .fin<|WP.seq<|WP.seq<|dg mX 6 16<|zS Q Q<|CH 16 Q T Q nP Q Q<|el H λtu hao H=>cl Q (cL 98) Q (fi.c hao)<|CH 5 Q T Q zy Q Q<|el H λtv hap H=>cx 17 [0,1,2,3,4,5,6,7,8,9,10,11,12,13,14,15,16] (cL 159) (cM.c hap (p0_:=gi)) pC λ_ _=>?_
 refine un0 Q Q (rk _)<|.fin<|cd H Q (λ_ H=>?_) (λ_ H=>?_)
 ·refine WP.seq<|rg 1 0<|Ad Q Q<|.fin<|wg (au.shut (p:=gb.2.2.2.1) (m:=a0.fall.aK) (gc.1,gc.2) hac (pm 17 [6,7,0,1,2,3,4,5,8,9,10,11,12,13,14,15,16])) λ_ _=>?_
  refine wg (dE.shut (p:=gb.2.2.2.2.1) (m:=a0.fall.aA) (gj.1,gj.2.1,gj.2.2) hag (pm 16 [4,3,5,0,1,2,6,7,8,9,10,11,12,13,14,15])) λ_ _=>?_
  refine wg (bY.shut (p:=p0_) (m:=a0) (gb.1,gb.2.1,gb.2.2.1,gb.2.2.2.1,gb.2.2.2.2.1,gb.2.2.2.2.2.1,gb.2.2.2.2.2.2.1,gb.2.2.2.2.2.2.2.1,gb.2.2.2.2.2.2.2.2.1,gb.2.2.2.2.2.2.2.2.2) haa (pm 14 [5,6,7,1,0,8,9,10,11,12,2,3,4,13])) λ_ _=>?_
  cases H.out;exact rt i2 Q () 5 [1,2,3,4,0] 4 (.cons (aQ Q) .nil)
 refine WP.skip<|WP.seq<|rg 1 0<|Ad Q Q<|.fin<|wg (au.shut (p:=gb.2.2.2.1) (m:=a0.fall.aK) (gc.1,gc.2) hac (pm 17 [6,7,0,1,2,3,4,5,8,9,10,11,12,13,14,15,16])) λ_ _=>?_
 refine wg (dE.shut (p:=gb.2.2.2.2.1) (m:=a0.fall.aA) (gj.1,gj.2.1,gj.2.2) hag (pm 16 [4,3,5,0,1,2,6,7,8,9,10,11,12,13,14,15])) λ_ _=>?_
 refine wg (bY.shut (p:=p0_) (m:=a0) (gb.1,gb.2.1,gb.2.2.1,gb.2.2.2.1,gb.2.2.2.2.1,gb.2.2.2.2.2.1,gb.2.2.2.2.2.2.1,gb.2.2.2.2.2.2.2.1,gb.2.2.2.2.2.2.2.2.1,gb.2.2.2.2.2.2.2.2.2) haa (pm 14 [5,6,7,1,0,8,9,10,11,12,2,3,4,13])) λ_ _=>?_
 cases H.out;exact rt i2 Q () 5 [1,2,3,4,0] 4 (.cons (aQ Q) .nil)
theorem eH.c {b0_:Nat} (h:eH.f a0=some r):Tr prog 132 [iT b0_] [ar b0_ 137 [vI a0.fn.fv,vI a0.bw]] (γ:=Unit) (λ_=>True) (λg=>vI r) (λg=>[ar b0_ 137 [vI a0.fn.fv,vI a0.bw]]):=by
 refine tf func132 h λR0 F H=>?_
 refine so<|Jq [0] ?_
 cases H.out;exact et () 1 [0] 0
theorem j3.c {p0_:OV} (h:j3.f a0=some r):Tr prog 133 [eq p0_.1] [bE.O p0_ a0] (γ:=Unit) (λ_=>True) (λg=>vI r) (λg=>[bE.O p0_ a0]):=by
 refine tf func133 h λR0 F H=>?_
 refine so<|WP.seq<|wg (bE.eF 0 Q) λgb haa=>?_
 refine wg (bI.eF 1 Q) λgc hac=>?_
 refine dg mX 12 0<|go 1<|Dv.aJ haa Q T Q<|fp haa Q T Q yf<|gl 1 [1]<|el H λta had H=>mH 4 [0,1,2,3] (cL 132) (Tr.fG (eH.c had (b0_:=gc)) (.cons (eb hac) .nil)) ?_
 refine go 1<|Dv.aJ haa Q T Q<|fp haa Q T Q yf<|gl 1 [1]<|el H λtc hae H=>mH 4 [0,1,2,3] (cL 35) (Tr.fG (dH.c hae (b0_:=gc)) (.cons (eb hac) .nil)) ?_
 refine go 2<|wg (bI.shut (p:=gb.2.1) (m:=a0.dA) gc hac (pm 4 [0,1,2,3])) λ_ _=>?_
 refine wg (bE.shut (p:=p0_) (m:=a0) (gb.1,gb.2.1,gb.2.2.1,gb.2.2.2) haa (pm 4 [1,0,2,3])) λ_ _=>?_
 cases H.out;exact et () 1 [0] 0
theorem ff.c {p0_:OV} (h:ff.f k a0 a1=some r):Tr prog 79 [eq p0_.1,agg (ak.enc a1)] [bY.O p0_ a0] (γ:=Unit) (λ_=>True) (λg=>vI r) (λg=>[bY.O p0_ a0]):=by
 refine tf func79 h λR0 F H=>?_
 refine wr 2 1<|Dv.box Q T Q cA nofun λba=>go 1<|sr H id [0,3] (λ_=>[]) (λ_=>[]) (λpa H=>?_) (λH=>?_)
 ·refine sr H id [0] (λ_=>[]) (λ_=>[]) (λpc H=>?_) (λH=>?_)
  rotate_left
  ·refine wu [0]<|cf H ?_ ?_ <;> intro H
   ·refine WP.skip ?_
    have H:=H.out
    exact jn () H
   refine wr 4 4<|gl 2 [0]<|el H λta haa H=>cx 2 [1,0] (cL 131) (ea.c haa (p0_:=p0_)) nofun λ_ _=>?_
   refine go 1<|so<|cf H ?_ ?_ <;> intro H
   ·refine WP.skip ?_
    have H:=H.out
    refine ns 2 [1,0] 0 ?_
    exact jn () H
   refine sp ?_
   have H:=H.cH
   cases H.out;exact et () 2 [1,0] 1
  refine WP.seq<|WP.seq<|wg (bY.eF 1 Q) λgb hac=>?_
  refine wg (bI.eF 2 Q) λgc had=>?_
  refine dg mX 20 131072<|go 1<|Dv.aJ hac Q T Q<|fp hac Q T Q xV<|gl 1 [1]<|el H λtc hae H=>mH 11 [0,1,2,3,4,5,6,7,8,9,10] (cL 35) (Tr.fG (dH.c hae (b0_:=gc)) (.cons (eb had) .nil)) ?_
  refine go 1<|Dv.aJ hac Q T Q<|fp hac Q T Q xV<|gl 1 [1]<|el H λte haf H=>mH 11 [0,1,2,3,4,5,6,7,8,9,10] (cL 132) (Tr.fG (eH.c haf (b0_:=gc)) (.cons (eb had) .nil)) ?_
  refine gp 2 ?_
  cases ca:(tc==te)
  rotate_left
  ·have H:=H.ct ca
   refine go 5<|Dv.su Q ⟨_,_,Q,Q,.inl Q⟩ (λ_=>ee kr)<|go 2<|WP.cond Q (λ_=>?_) nofun
   refine so<|wg (bI.shut (p:=gb.2.2.1) (m:=a0.aq) gc had (pm 11 [0,1,2,3,4,5,6,7,8,9,10])) λ_ _=>?_
   refine wg (bY.shut (p:=p0_) (m:=a0) (gb.1,gb.2.1,gb.2.2.1,gb.2.2.2.1,gb.2.2.2.2.1,gb.2.2.2.2.2.1,gb.2.2.2.2.2.2.1,gb.2.2.2.2.2.2.2.1,gb.2.2.2.2.2.2.2.2.1,gb.2.2.2.2.2.2.2.2.2) hac (pm 11 [1,2,0,3,4,5,6,7,8,9,10])) λ_ _=>?_
   cases H.out;exact et () 2 [1,0] 1
  have H:=H.cf ca
  refine go 1<|Dv.aJ hac Q (gg Q) Q<|fp hac Q (gg Q) Q iS<|gl 2 [1]<|el H λtg hag H=>cx 11 [7,0,1,2,3,4,5,6,8,9,10] (cL 133) (j3.c hag (p0_:=gb.2.2.2.2.2.2.2.1)) pC λ_ _=>?_
  refine go 2<|ce H ?_ ?_ <;> intro H
  ·refine so<|wg (bI.shut (p:=gb.2.2.1) (m:=a0.aq) gc had (pm 11 [1,0,2,3,4,5,6,7,8,9,10])) λ_ _=>?_
   refine wg (bY.shut (p:=p0_) (m:=a0) (gb.1,gb.2.1,gb.2.2.1,gb.2.2.2.1,gb.2.2.2.2.1,gb.2.2.2.2.2.1,gb.2.2.2.2.2.2.1,gb.2.2.2.2.2.2.2.1,gb.2.2.2.2.2.2.2.2.1,gb.2.2.2.2.2.2.2.2.2) hac (pm 11 [2,3,0,4,5,6,7,1,8,9,10])) λ_ _=>?_
   cases H.out;exact et () 2 [1,0] 1
  refine WP.skip<|so<|wg (bI.shut (p:=gb.2.2.1) (m:=a0.aq) gc had (pm 11 [1,0,2,3,4,5,6,7,8,9,10])) λ_ _=>?_
  refine wg (bY.shut (p:=p0_) (m:=a0) (gb.1,gb.2.1,gb.2.2.1,gb.2.2.2.1,gb.2.2.2.2.1,gb.2.2.2.2.2.1,gb.2.2.2.2.2.2.1,gb.2.2.2.2.2.2.2.1,gb.2.2.2.2.2.2.2.2.1,gb.2.2.2.2.2.2.2.2.2) hac (pm 11 [2,3,0,4,5,6,7,1,8,9,10])) λ_ _=>?_
  cases H.out;exact et () 2 [1,0] 1
 refine WP.block<|wr 4 0<|gl 1 [0]<|el H λtj hah H=>cl Q (cL 128) Q (eG.c hah)<|go 2<|ce H ?_ ?_ <;> intro H
 ·refine sp ?_
  have H:=H.cH
  cases H.out;exact et () 2 [0,1] 1
 refine WP.seq<|wg (bY.eF 1 Q) λgi hai=>?_
 refine dg mX 9 0<|gl 2 [10]<|el H λtm haj H=>cl Q (cL 129) Q (lI.c haj)<|go 1<|Dv.aJ hai Q T Q<|fp hai Q T Q xD<|gl 3 [0]<|ce H ?_ ?_ <;> intro H
 ·refine so<|wg (bY.shut (p:=p0_) (m:=a0) (gi.1,gi.2.1,gi.2.2.1,gi.2.2.2.1,gi.2.2.2.2.1,gi.2.2.2.2.2.1,gi.2.2.2.2.2.2.1,gi.2.2.2.2.2.2.2.1,gi.2.2.2.2.2.2.2.2.1,gi.2.2.2.2.2.2.2.2.2) hai (pm 11 [0,1,2,3,4,5,6,7,8,9,10])) λ_ _=>?_
  have H:=H.cH
  cases H.out;exact et () 2 [1,0] 1
 refine WP.seq<|wd mX 16 2048<|jf 4 [10] ?_
 cases cb:(a1.bf==3)
 ·have H:=H.cf cb
  refine go 7<|Dv.su Q ⟨_,_,Q,Q,.inl Q⟩ (λ_=>ee kr)<|go 4<|WP.cond Q nofun (λ_=>?_)
  refine wg (au.eF 3 Q) λgj hak=>?_
  refine dg mX 17 0<|jf 4 [11] ?_
  cases cg:(a1.bf != 3)
  ·have H:=H.cf cg
   refine go 13<|WP.cond Q nofun (λ_=>?_)
   refine WP.skip ?_
   have H:=H.out
   refine ng (au.shut (p:=gi.2.2.2.1) (m:=a0.fall.aK) (gj.1,gj.2) hak (pm 12 [0,1,2,3,4,5,6,7,8,9,10,11])) λ_ _=>?_
   refine ng (bY.shut (p:=p0_) (m:=a0) (gi.1,gi.2.1,gi.2.2.1,gi.2.2.2.1,gi.2.2.2.2.1,gi.2.2.2.2.2.1,gi.2.2.2.2.2.2.1,gi.2.2.2.2.2.2.2.1,gi.2.2.2.2.2.2.2.2.1,gi.2.2.2.2.2.2.2.2.2) hai (pm 11 [1,2,3,0,4,5,6,7,8,9,10])) λ_ _=>?_
   refine ns 2 [1,0] 0 ?_
   exact jn (!tj,!decide (tm=a0.av),false) H
  have H:=H.ct cg
  refine go 1<|Dv.aJ hai Q (gg Q) Q<|fp hai Q (gg Q) Q iS<|gl 6 [2,11,11]<|el H λtn ham H=>mH 12 [0,1,2,3,4,5,6,7,8,9,10,11] (cL 118) (Tr.fG (de.c ham (b0_:=gj.1) (v0_0:=gj.2)) (.cons (eb hak) (.cons cG (.cons cG .nil)))) ?_
  refine go 3<|cf H ?_ ?_ <;> intro H
  ·refine WP.skip ?_
   have H:=H.out
   refine ng (au.shut (p:=gi.2.2.2.1) (m:=a0.fall.aK) (gj.1,gj.2) hak (pm 12 [0,1,2,3,4,5,6,7,8,9,10,11])) λ_ _=>?_
   refine ng (bY.shut (p:=p0_) (m:=a0) (gi.1,gi.2.1,gi.2.2.1,gi.2.2.2.1,gi.2.2.2.2.1,gi.2.2.2.2.2.1,gi.2.2.2.2.2.2.1,gi.2.2.2.2.2.2.2.1,gi.2.2.2.2.2.2.2.2.1,gi.2.2.2.2.2.2.2.2.2) hai (pm 11 [1,2,3,0,4,5,6,7,8,9,10])) λ_ _=>?_
   refine ns 2 [1,0] 0 ?_
   exact jn (!tj,!decide (tm=a0.av),!tn) H
  refine so<|wg (au.shut (p:=gi.2.2.2.1) (m:=a0.fall.aK) (gj.1,gj.2) hak (pm 12 [0,1,2,3,4,5,6,7,8,9,10,11])) λ_ _=>?_
  refine wg (bY.shut (p:=p0_) (m:=a0) (gi.1,gi.2.1,gi.2.2.1,gi.2.2.2.1,gi.2.2.2.2.1,gi.2.2.2.2.2.1,gi.2.2.2.2.2.2.1,gi.2.2.2.2.2.2.2.1,gi.2.2.2.2.2.2.2.2.1,gi.2.2.2.2.2.2.2.2.2) hai (pm 11 [1,2,3,0,4,5,6,7,8,9,10])) λ_ _=>?_
  have H:=H.cH
  cases H.out;exact et () 2 [1,0] 1
 have H:=H.ct cb
 refine go 1<|Dv.aJ hai Q (gg Q) Q<|fp hai Q (gg Q) Q iS<|gl 4 [0,10]<|el H λtp han H=>cx 11 [3,0,1,2,4,5,6,7,8,9,10] (cL 130) (gG.c han (p0_:=gi.2.2.2.1)) pC λgk _=>?_
 refine Dv.kl Q (gg Q) Q (ab 1 Q) iu<|go 3<|ce H ?_ ?_ <;> intro H
 ·refine WP.skip<|ce H ?_ ?_ <;> intro H
  ·refine so<|wg (bY.shut (p:=p0_) (m:=a0) (gi.1,gi.2.1,gi.2.2.1,gi.2.2.2.1,gi.2.2.2.2.1,gi.2.2.2.2.2.1,gi.2.2.2.2.2.2.1,gi.2.2.2.2.2.2.2.1,gi.2.2.2.2.2.2.2.2.1,gi.2.2.2.2.2.2.2.2.2) hai (pm 12 [2,3,4,0,5,6,7,8,9,10,1,11])) λ_ _=>?_
   have H:=H.cH
   cases H.out;exact et () 3 [1,2,0] 2
  refine WP.skip ?_
  have H:=H.out
  refine ng (bY.shut (p:=p0_) (m:=a0) (gi.1,gi.2.1,gi.2.2.1,gi.2.2.2.1,gi.2.2.2.2.1,gi.2.2.2.2.2.1,gi.2.2.2.2.2.2.1,gi.2.2.2.2.2.2.2.1,gi.2.2.2.2.2.2.2.2.1,gi.2.2.2.2.2.2.2.2.2) hai (pm 12 [2,3,4,0,5,6,7,8,9,10,1,11])) λ_ _=>?_
  refine ns 3 [1,2,0] 1 ?_
  exact jn (!tj,!decide (tm=a0.av),((tp.length:Int)==0)) H
 refine wg (au.eF 0 Q) λgn hao=>?_
 refine dg mX 17 0<|jf 4 [12] ?_
 cases ci:(a1.bf != 3)
 ·have H:=H.cf ci
  refine go 13<|WP.cond Q nofun (λ_=>?_)
  refine WP.skip ?_
  have H:=H.out
  refine ng (au.shut (p:=gi.2.2.2.1) (m:=a0.fall.aK) (gn.1,gn.2) hao (pm 13 [0,1,2,3,4,5,6,7,8,9,10,11,12])) λ_ _=>?_
  refine ng (bY.shut (p:=p0_) (m:=a0) (gi.1,gi.2.1,gi.2.2.1,gi.2.2.2.1,gi.2.2.2.2.1,gi.2.2.2.2.2.1,gi.2.2.2.2.2.2.1,gi.2.2.2.2.2.2.2.1,gi.2.2.2.2.2.2.2.2.1,gi.2.2.2.2.2.2.2.2.2) hai (pm 12 [2,3,4,0,5,6,7,8,9,10,1,11])) λ_ _=>?_
  refine ns 3 [1,2,0] 1 ?_
  exact jn (!tj,!decide (tm=a0.av),false) H
 have H:=H.ct ci
 refine go 1<|Dv.aJ hai Q (gg Q) Q<|fp hai Q (gg Q) Q iS<|gl 6 [3,12,12]<|el H λtq hap H=>mH 13 [0,1,2,3,4,5,6,7,8,9,10,11,12] (cL 118) (Tr.fG (de.c hap (b0_:=gn.1) (v0_0:=gn.2)) (.cons (eb hao) (.cons cG (.cons cG .nil)))) ?_
 refine go 3<|cf H ?_ ?_ <;> intro H
 ·refine WP.skip ?_
  have H:=H.out
  refine ng (au.shut (p:=gi.2.2.2.1) (m:=a0.fall.aK) (gn.1,gn.2) hao (pm 13 [0,1,2,3,4,5,6,7,8,9,10,11,12])) λ_ _=>?_
  refine ng (bY.shut (p:=p0_) (m:=a0) (gi.1,gi.2.1,gi.2.2.1,gi.2.2.2.1,gi.2.2.2.2.1,gi.2.2.2.2.2.1,gi.2.2.2.2.2.2.1,gi.2.2.2.2.2.2.2.1,gi.2.2.2.2.2.2.2.2.1,gi.2.2.2.2.2.2.2.2.2) hai (pm 12 [2,3,4,0,5,6,7,8,9,10,1,11])) λ_ _=>?_
  refine ns 3 [1,2,0] 1 ?_
  exact jn (!tj,!decide (tm=a0.av),!tq) H
 refine so<|wg (au.shut (p:=gi.2.2.2.1) (m:=a0.fall.aK) (gn.1,gn.2) hao (pm 13 [0,1,2,3,4,5,6,7,8,9,10,11,12])) λ_ _=>?_
 refine wg (bY.shut (p:=p0_) (m:=a0) (gi.1,gi.2.1,gi.2.2.1,gi.2.2.2.1,gi.2.2.2.2.1,gi.2.2.2.2.2.1,gi.2.2.2.2.2.2.1,gi.2.2.2.2.2.2.2.1,gi.2.2.2.2.2.2.2.2.1,gi.2.2.2.2.2.2.2.2.2) hai (pm 12 [2,3,4,0,5,6,7,8,9,10,1,11])) λ_ _=>?_
 have H:=H.cH
 cases H.out;exact et () 3 [1,2,0] 2
theorem jX.c (h:jX.f k a0=some r):Pt prog 142 [agg (ak.enc a0)] (vB r):=by
 refine pf func142 h λR0 F H=>?_
 refine wr 2 1<|Dv.box Q T Q cA nofun λba=>go 1<|wr 8 0<|gl 1 [0]<|el H λta haa H=>cl Q (cL 128) Q (eG.c haa)<|gp 1 ?_
 cases ca:ta
 ·have H:=H.cf ca
  refine gq 5 ?_
  cases H.out;exact ek 1
 have H:=H.ct ca
 refine E9 5 [0] ?_
 cases H.out;exact ek 1
theorem nk.c (h:nk.f a0=some r):Pt prog 143 [agg (ak.enc a0)] (agg (aZ.enc r)):=by
 refine pf func143 h λR0 F H=>?_
 refine wr 2 3<|Dv.box Q T Q cA nofun λba=>al Q T Bt nofun λbc=>.fin<|wr 12 2048<|gl 10 [1,1,1,1,1]<|Dv.lD (qs:=[vI a0.bf,vS a0.aj,vS a0.aC,vS a0.ah,vB a0.ay]) (css:=[[vI a0.bf],[vS a0.aj],[vS a0.aC],[vS a0.ah],[vB a0.ay]]) Q T nM pl264 Dx Q ⟨(cells_one (ai Q)),⟨(cells_one (ai Q)),⟨(cells_one (ai Q)),⟨(cells_one (ai Q)),⟨(cells_one (ai Q)),T⟩⟩⟩⟩⟩ Q Q<|sy 0 ?_
 refine .fin ?_
 cases H.out;exact r2 i2 Q (.cons (aL Q nM Q oM (ab 0 Q) Q) .nil)
theorem lay_Number.c {p0_:OV} (h:lay_Number.f k a0 a1=some r):Tr prog 113 [eq p0_.1,vI a1] [own (aP .u8) p0_.1 a0] (γ:=OV) (λ_=>True) (λg=>eq g.1) (λg=>[own (aP .u8) g.1 r]):=by
 refine tf func113 h λR0 F H=>?_
 refine so<|wr 3 0<|go 1<|Dv.Ch Q T Q Q<|go 1<|wr 7 32<|go 2<|Dv.kl Q T Q (ab 0 Q) Aj<|go 1<|Dv.kl Q T Q (ab 0 Q) Aj<|gr H λgb H=>Dv.Jt (jj:=0) Q T Q Q Aj U5 c5 dQ (fg Q gb.1) (.inr ⟨⟨_,_,Q,gb.1,Q⟩,Q,Q⟩) gb.2.1 gb.2.2 nofun (λva=>?_)
 refine go 1<|sq H (λqa:(Int×Bool×(List Int))×OV=>qa.1) [] (λqa=>[(0,eq qa.2.1),(1,vI qa.1.1)]) (λqa=>[(0,own (aP .u8) qa.2.1 qa.1.2.2)]) (λqa H=>?_) (λH=>?_)
 ·obtain⟨pa,vb⟩:=qa
  refine wr 6 16<|go 2<|Dv.I8 Q T Q U3 U5<|Dv.lit (aP .u8) ([IntKind.u8.wrap (pa.1)]:List Int) (css:=[[eq (.int .u8 (IntKind.u8.wrap (pa.1)))]]) Q T Aj U5 c5 z5 Q dc dc Q ⟨(cells_one (ai Q)),T⟩ Q Q Q<|gr H λgc H=>ap (aP .u8) 0 ([IntKind.u8.wrap (pa.1)]:List Int) dG Aj (.inr ⟨_,Aj⟩) IG gc nofun λvd=>?_
  refine gq 1 ?_
  cases H.out;exact et vd 1 [0] 0
 refine WP.block<|ws 1 [0] 0 ?_
 refine lq (λj_ (pc:Int×(List Int)×OV)=>lay_Number.l0 k j_ pc.1 pc.2.1) (max a1 0,(a0.take ((a0.length:Int).toNat)).drop 0,va) H [] (λpc=>[(0,eq pc.2.2.1),(1,vI pc.1)]) (λpc=>[(0,own (aP .u8) pc.2.2.1 pc.2.1)]) ?_
 rintro j_ ⟨xa,xb,ve⟩ H
 rcases j_ with _ | ja
 ·exact(aW.no H).elim
 try dsimp only at H
 rw [lay_Number.l0] at H
 refine WP.seq<|so<|cf H ?_ ?_ <;> intro H
 ·refine WP.exit ?_
  have H:=H.out
  exact jn ((xa,decide (128<=xa),xb),ve) H
 refine WP.skip<|WP.seq<|WP.block<|rg 8 64<|go 2<|rr Q Q Q (q7 dc)<|go 1<|Dv.I8 Q T Q U3 U5<|Dv.lit (aP .u8) ([IntKind.u8.wrap (aE ((xa.tmod 128)+128))]:List Int) (css:=[[eq (.int .u8 (IntKind.u8.wrap (aE ((xa.tmod 128)+128))))]]) Q T Aj U5 c5 z5 Q dc dc Q ⟨(cells_one (ai Q)),T⟩ Q Q Q<|gr H λgi H=>ap (aP .u8) 0 ([IntKind.u8.wrap (aE ((xa.tmod 128)+128))]:List Int) dG Aj (.inr ⟨_,Aj⟩) IG gi nofun λvh=>?_
 exact go 1<|rg 3 0<|go 1<|rr Q Q Q (pX dc)<|go 1<|bk ja (aE (xa.tdiv 128),xb++([IntKind.u8.wrap (aE ((xa.tmod 128)+128))]:List Int),vh) H
theorem nF.c {p0_:OV} (h:nF.f k a0 a1=some r):Tr prog 111 [eq p0_.1,vB a1] [own (aP .u8) p0_.1 a0] (γ:=OV) (λ_=>True) (λg=>eq g.1) (λg=>[own (aP .u8) g.1 r]):=by
 refine tf func111 h λR0 F H=>?_
 refine so<|WP.seq<|so<|ce H ?_ ?_ <;> intro H
 ·refine wr 3 2<|go 1<|el H λta haa H=>cx 1 [0] (cL 113) (lay_Number.c haa (p0_:=p0_)) nofun λgb _=>?_
  refine gq 1 ?_
  cases H.out;exact et gb 1 [0] 0
 refine WP.skip<|wr 3 2<|go 1<|el H λtc hac H=>cx 1 [0] (cL 113) (lay_Number.c hac (p0_:=p0_)) nofun λgc _=>?_
 refine gq 1 ?_
 cases H.out;exact et gc 1 [0] 0
theorem kH.c {p0_:OV} (h:kH.f k a0 a1=some r):Tr prog 112 [eq p0_.1,vS a1] [own (aP .u8) p0_.1 a0] (γ:=OV) (λ_=>True) (λg=>eq g.1) (λg=>[own (aP .u8) g.1 r]):=by
 refine tf func112 h λR0 F H=>?_
 refine so<|wr 7 40<|go 2<|Dv.lens Q T Q U9<|el H λta haa H=>cx 1 [0] (cL 113) (lay_Number.c haa (p0_:=p0_)) nofun λgb _=>?_
 refine go 1<|gr H λgc H=>ap (aP .u8) 0 (qm a1) GV Aj (.inl U9) IG gc nofun λva=>?_
 refine gq 1 ?_
 cases H.out;exact et va 1 [0] 0
theorem du.c (h:du.f k a0=some r):Tr prog 186 [agg (ak.enc a0)] [] (γ:=OV) (λ_=>True) (λg=>eq g.1) (λg=>[own (aP .u8) g.1 r]):=by
 refine tf func186 h λR0 F H=>?_
 refine wr 2 1<|Dv.box Q T Q cA nofun λba=>go 1<|wr 4 4<|gl 2 [0]<|vg (dX (aP .u8) none) λ_ _=>?_
 refine el H λta haa H=>cx 2 [0,1] (cL 113) (lay_Number.c haa (p0_:=iQ)) nofun λgb _=>?_
 refine go 1<|WP.kW H (λqa:(Int×Bool×(List Int))×OV=>qa.1) (λqa=>[(1,iT ba),(3,eq qa.2.1)]) (λqa=>[ar ba 80 (ak.enc a0),own (aP .u8) qa.2.1 qa.1.2.2]++F) (λqa H=>?_) (λH=>?_)
 rotate_left
 ·refine wr 11 0<|gl 8 [1,1,1,1]<|Dv.lit az ([a0.aj,a0.aC,a0.bP,a0.ah]:List BA) (css:=[[vS a0.aj],[vS a0.aC],[vS a0.bP],[vS a0.ah]]) Q T iu U9 c9 z9 Q dc dc Q ⟨(cells_one (ai Q)),⟨(cells_one (ai Q)),⟨(cells_one (ai Q)),⟨(cells_one (ai Q)),T⟩⟩⟩⟩ Q Q Q<|Dv.jw Q T Q iu<|go 1<|WP.block<|ws 2 [1,0] 0 ?_
  refine lq (λj_ (pa:Int×(List Int)×OV)=>du.l1 k a0 j_ pa.1 pa.2.1) (0,ta,gb) H [1,19,20] (λpa=>[(3,eq pa.2.2.1),(21,vI pa.1)]) (λpa=>[(1,own (aP .u8) pa.2.2.1 pa.2.1)]) ?_
  rintro j_ ⟨xa,xb,va⟩ H
  rcases j_ with _ | ja
  ·exact(aW.no H).elim
  try dsimp only at H
  rw [du.l1] at H
  refine so<|WP.seq<|cf H ?_ ?_ <;> intro H
  ·refine WP.exit ?_
   have H:=H.out
   exact jn ((xa,decide (xa<(([a0.aj,a0.aC,a0.bP,a0.ah]:List BA).length:Int)),xb),va) H
  refine WP.skip<|WP.seq<|WP.block<|wr 3 0<|gr H λgc H=>Dv.lE Q T Q Q iu U9 c9 gc.1 gc.2<|nK Q T Q o6 Q<|go 1<|rg 4 4<|go 2<|el H λtc hac H=>cx 2 [1,0] (cL 112) (kH.c hac (p0_:=va)) nofun λgi _=>?_
  refine go 1<|rg 2 0<|go 2<|ns 2 [1,0] 0 ?_
  exact bk ja (aE (xa+1),tc,gi) H
 obtain⟨pc,vb⟩:=qa
 refine wr 5 8<|gl 3 [0]<|el H λte had H=>cx 2 [1,0] (cL 111) (nF.c had (p0_:=vb)) nofun λgj _=>?_
 refine go 1<|WP.kW H (λqb:(Int×Bool×(List Int))×OV=>qb.1) (λqb=>[(3,eq qb.2.1)]) (λqb=>[ar ba 80 (ak.enc a0),own (aP .u8) qb.2.1 qb.1.2.2]++F) (λqb H=>?_) (λH=>?_)
 ·obtain⟨pe,vd⟩:=qb
  refine sp ?_
  cases H.out;exact et vd 2 [0,1] 1
 refine wr 11 0<|gl 8 [1,1,1,1]<|Dv.lit (aP .i64) ([a0.cX,a0.bU,a0.bK,a0.aS]:List Int) (css:=[[vI a0.cX],[vI a0.bU],[vI a0.bK],[vI a0.aS]]) Q T yn U3 c3 z3 Q dc dc Q ⟨(cells_one (ai Q)),⟨(cells_one (ai Q)),⟨(cells_one (ai Q)),⟨(cells_one (ai Q)),T⟩⟩⟩⟩ Q Q Q<|Dv.jw Q T Q yn<|go 1<|WP.block<|ws 2 [1,0] 0 ?_
 refine lq (λj_ (pg:Int×(List Int)×OV)=>du.l0 k a0 j_ pg.1 pg.2.1) (0,te,gj) H [41,42] (λpg=>[(3,eq pg.2.2.1),(43,vI pg.1)]) (λpg=>[(1,own (aP .u8) pg.2.2.1 pg.2.1)]) ?_
 rintro j_ ⟨xc,xd,ve⟩ H
 rcases j_ with _ | jc
 ·exact(aW.no H).elim
 try dsimp only at H
 rw [du.l0] at H
 refine so<|WP.seq<|cf H ?_ ?_ <;> intro H
 ·refine WP.exit ?_
  have H:=H.out
  exact jn ((xc,decide (xc<(([a0.cX,a0.bU,a0.bK,a0.aS]:List Int).length:Int)),xd),ve) H
 refine WP.skip<|WP.seq<|WP.block<|wr 3 0<|gr H λgk H=>Dv.lE Q T Q Q yn U3 c3 gk.1 gk.2<|nK Q T Q Hu Q<|go 1<|rg 4 4<|go 2<|el H λtg hae H=>cx 2 [1,0] (cL 113) (lay_Number.c hae (p0_:=ve)) nofun λgn _=>?_
 refine go 1<|rg 2 0<|go 2<|ns 2 [1,0] 0 ?_
 exact bk jc (aE (xc+1),tg,gn) H
theorem lU.c (h:lU.f a0 a1=some r):Pt prog 271 [sl (aP .u8) a0,sl (aP .u8) a1] (vI r):=by
 refine pf func271 h λR0 F H=>?_
 refine so<|wr 4 0<|go 2<|Dv.cext Q T Q (Iy func288 kr Q xf288 xg288)<|gq 1 ?_
 cases H.out;exact ek 0
theorem mi.c (h:mi.f k a0 a1=some r):Pt prog 218 [agg (ak.enc a0),agg (ak.enc a1)] (vI r):=by
 refine pf func218 h λR0 F H=>?_
 refine wr 3 3<|Dv.box Q T Q cA nofun λba=>Dv.box Q T Q cA nofun λbc=>go 1<|WP.seq<|dgo mX [0,1,2,3,4,5,7,6,8,9,10,11,12] [6,8]<|gl 4 [1,0]<|el H λta haa H=>cl Q (cL 197) Q (dj.c haa)<|gl 2 [1,0]<|el H λtc hac H=>Dv.lS (pre:=[]) (F:=[ar bc 80 (ak.enc a1),ar ba 80 (ak.enc a0)]++F) (λgb:OV=>[own (aP .u8) gb.1 tc,ar bc 80 (ak.enc a1),ar ba 80 (ak.enc a0)]++F) Q T (cL 186) Q (du.c hac) (bN (L:=[ar bc 80 (ak.enc a1),ar ba 80 (ak.enc a0)]) (F:=F) [0,1] Q Q Q) Q pE (λgb _=>?_)
 refine el H λte had H=>cx 3 [0,1,2] (cL 186) (du.c had) pC λgc _=>?_
 refine el H λtg hae H=>mH (B:=[own (aP .u8) gb.1 tc,own (aP .u8) gc.1 te]) 4 [1,0,2,3] (cL 271) (Pt.qz _ (lU.c hae) (.cons (ln (ab 0 Q)) (.cons (ln (ab 1 Q)) .nil)) cJ) ?_
 refine Dv.lit (aP .i64) ([ta,tg]:List Int) (css:=[[vI ta],[vI tg]]) Q T yn U3 c3 z3 Q dc dc Q ⟨(cells_one (ai Q)),⟨(cells_one (ai Q)),T⟩⟩ Q Q Q<|el H λtj haf H=>cl Q (cL 195) Q (b8.c haf)<|gq 1 ?_
 cases H.out;exact ek 4
theorem kM.c (h:kM.f k a0 a1=some r):Pt prog 144 [agg (ak.enc a0),agg (ak.enc a1)] (vB r):=by
 refine pf func144 h λR0 F H=>?_
 refine wr 3 3<|Dv.box Q T Q cA nofun λba=>Dv.box Q T Q cA nofun λbc=>go 1<|wd mX 12 0<|gl 1 [1]<|el H λta haa H=>cl Q (cL 143) Q (nk.c haa)<|gl 1 [0]<|el H λtc hac H=>cl Q (cL 143) Q (nk.c hac)<|Dv.eqs [.int .i64 ta.bf,.string ta.aj,.string ta.aC,.string ta.ah,.bool ta.ay] [.int .i64 tc.bf,.string tc.aj,.string tc.aC,.string tc.ah,.bool tc.ay] Q T Q Q Q Q HQ (λ_=>dJ 2 dc (λ_=>Ac ta tc))<|gp 1 ?_
 cases ca:decide (ta=tc)
 ·have H:=H.cf ca
  refine gq 6 ?_
  cases H.out;exact ek 2
 have H:=H.ct ca
 refine gl 2 [1,0]<|el H λte had H=>Dv.call Q (gg Q) (cL 218) Q (mi.c had)<|gq 3 ?_
 cases H.out;exact ek 2
theorem slices_BinarySearchFunc_Edu_Edu.c (h:slices_BinarySearchFunc_Edu_Edu.f k a0 a1 a2=some r):Pt prog 259 [sl ak.K a0,agg (ak.enc a1),qf a2] (lg [vI r.1,vB r.2]):=by
 refine pf func259 h λR0 F H=>?_
 refine wr 3 1<|Dv.box Q T Q cA nofun λba=>go 2<|wr 3 0<|go 1<|Dv.jw Q T Q fk<|go 1<|so<|sq H id [0,2,4,8] (λpa=>[(9,vI pa.1)]) (λ_=>[]) (λpa H=>?_) (λH=>?_)
 ·refine wd mX 16 0<|gp 5 ?_
  cases ca:decide (pa.1<(a0.length:Int))
  ·have H:=H.cf ca
   refine gq 11 ?_
   cases H.out;exact ek 1
  have H:=H.ct ca
  refine go 3<|gr H λgb H=>Dv.lE Q (gg Q) Q Q fk fO ij gb.1 gb.2<|mY Q (gg Q) Q nP Q<|gl 1 [0]<|el H λta haa H=>Dv.ql (ret:=vI ta) Q (gg Q) Q Q ⟨_,_,_,haa,Q,Q⟩<|gq 4 ?_
  cases H.out;exact ek 1
 refine WP.block<|ws 1 [0] 0 ?_
 refine lq (λj_ (pc:Int×Int)=>slices_BinarySearchFunc_Edu_Edu.l0 k a0 a1 a2 j_ pc.1 pc.2) (0,(a0.length:Int)) H [0,2,4,8] (λpc=>[(9,vI pc.1),(10,vI pc.2)]) (λ_=>[]) ?_
 rintro j_ ⟨xa,xb⟩ H
 rcases j_ with _ | ja
 ·exact(aW.no H).elim
 try dsimp only at H
 rw [slices_BinarySearchFunc_Edu_Edu.l0] at H
 refine WP.seq<|so<|cf H ?_ ?_ <;> intro H
 ·refine WP.exit ?_
  have H:=H.out
  exact jn (xa,xb,decide (xa<xb)) H
 refine WP.skip<|WP.block<|wr 7 0<|go 3<|Dv.I8 Q T Q U3 GG<|rr Q Q Q (Bz dc)<|Dv.I8 Q T Q GG U3<|go 1<|wd mX 8 0<|go 3<|gr H λgc H=>Dv.lE Q T Q Q fk fO ij gc.1 gc.2<|mY Q T Q nP Q<|gl 1 [0]<|el H λtc hac H=>Dv.ql (ret:=vI tc) Q T Q Q ⟨_,_,_,hac,Q,Q⟩<|go 1<|cf H ?_ ?_ <;> intro H
 ·exact rg 2 0<|go 2<|bk ja (xa,aE ((IntKind.u64.wrap (aE (xa+xb))).fdiv 2)) H
 exact rg 3 0<|go 3<|bk ja (aE ((aE ((IntKind.u64.wrap (aE (xa+xb))).fdiv 2))+1),xb) H
theorem jK.c (h:jK.f k a0 a1=some r):Pt prog 260 [agg (ak.enc a0),agg (ak.enc a1)] (vI r):=by
 refine pf func260 h λR0 F H=>?_
 refine wr 3 3<|Dv.box Q T Q cA nofun λba=>Dv.box Q T Q cA nofun λbc=>go 1<|wd mX 13 0<|gl 4 [1,0]<|el H λta haa H=>cl Q (cL 196) Q (bu.c haa)<|gl 4 [1,0]<|el H λtc hac H=>cl Q (cL 196) Q (bu.c hac)<|Dv.lit (aP .i64) ([ta,tc]:List Int) (css:=[[vI ta],[vI tc]]) Q T yn U3 c3 z3 Q dc dc Q ⟨(cells_one (ai Q)),⟨(cells_one (ai Q)),T⟩⟩ Q Q Q<|el H λte had H=>cl Q (cL 195) Q (b8.c had)<|gq 1 ?_
 cases H.out;exact ek 2
theorem gX.c {v0_0 v0_1:OV} {b0_:Nat} (h:gX.f k a0 a1=some r):Tr prog 209 [iT b0_,agg (ak.enc a1)] [ar b0_ 154 [eq v0_0.1,eq v0_1.1],own ak.K v0_0.1 a0.fl] (γ:=Unit) (λ_=>True) (λg=>lg [vI r.1,vB r.2]) (λg=>[ar b0_ 154 [eq v0_0.1,eq v0_1.1],own ak.K v0_0.1 a0.fl]):=by
 refine tf func209 h λR0 F H=>?_
 refine wr 3 1<|Dv.box Q T Q cA nofun λba=>go 2<|wd mX 10 0<|gl 5 [1,0]<|el H λta haa H=>mH (B:=[own ak.K v0_0.1 a0.fl]) 3 [2,0,1] (cL 259) (Pt.qz _ (Pt.fG (slices_BinarySearchFunc_Edu_Edu.c haa) (.cons cG (.cons cG (.cons (tA (cL 260) (by rintro _ _ ⟨a0_,a1_,r_,h_,rfl,rfl⟩;exact jK.c h_)) .nil)))) (.cons (ln (ab 0 Q)) (.cons nV (.cons nV .nil))) (vH (bH cJ (bH cJ jB)))) ?_
 refine dZ Q T Q Q<|dZ Q T Q Q<|gq 2 ?_
 cases H.out;exact et () 3 [0,1,2] 1
theorem gF.c {p0_:OV} (h:gF.f a0 a1 a2=some r):Tr prog 210 [eq p0_.1,vI a1,sl ak.K a2] [own ak.K p0_.1 a0] (γ:=OV) (λ_=>True) (λg=>eq g.1) (λg=>[own ak.K g.1 r]):=by
 unfold gF.f at h
 obtain⟨⟨h0,h1,h2,h3,h4⟩,h5⟩:=(aW.of h).aF
 obtain rfl:=aW.out h5
 clear h h5
 obtain⟨i,rfl⟩:=Int.eq_ofNat_of_zero_le h0
 have hi:i<=a0.length:=om
 obtain⟨v,hv⟩:=p0_
 obtain⟨ti,u1,u2,u3,u4⟩:=qp
 refine Tr.body func210 (c:=_) Q ntmps210 (Nat.le_of_ble_eq_true Q) λR0 F=>WP.seq<|WP.qB [(0,false)] kr<|go 1<|WP.seq<|WP.qB [(0,false),(1,false),(2,false)] kr<|go 2<|Dv.sloa (Kd:=ak.K) (xs:=a0) (v:=v) Q T Q (ab 0 Q) fk fO ij (fJ (m:=i) Q) hi<|.fin<|WP.seq<|WP.qB [(0,false),(1,false),(2,false)] kr<|go 1<|Dv.jw Q T Q fk<|go 1<|WP.seq<|WP.seq<|WP.qB [(0,false),(1,false)] kr<|go 2<|WP.cond Q (λc0=>?_) (λc0=>?_)
 ·exfalso;have:=beq_iff_eq.1 c0;omega
 refine WP.skip<|WP.seq<|WP.qB [(0,false),(1,false),(2,false)] kr<|go 1<|Dv.kl (Kd:=ak.K) (xs:=a0) (v:=v) Q T Q (ab 0 Q) fk<|go 1<|WP.seq<|WP.seq<|WP.qB [(0,false),(1,false),(2,false)] kr<|go 3<|WP.cond Q (λc1=>?_) (λc1=>?_)
 ·have e1:i=a0.length:=by have:=beq_iff_eq.1 c1;omega
  subst e1
  refine WP.seq<|WP.qB [(0,false),(1,false),(2,true),(3,false)] kr<|go 2<|Dv.uX (Kd:=ak.K) (xs:=a0) (v:=v) (jj:=0) (ys:=a2) (λv1:OV=>[own ak.K v1.1 (a0++a2)]++F) Q T Q Q Q dG fk (.inr ⟨_,fk⟩) qp Q dc om Q nofun (λv1=>?_)
  refine gq 1 ?_
  have e2:a0.take (a0.length:Int).toNat++a2++a0.drop (a0.length:Int).toNat=a0++a2:=sM
  rw [e2]
  exact et v1 1 [0] 0
 refine WP.skip ?_
 have hlt:i<a0.length:=by have:¬ ((i:Int)=(a0.length:Int)):=(by simpa using c1);omega
 have hne:a0≠[]:=by intro e;subst e;simp at hlt
 rw [Int.toNat_natCast]
 refine wg (zY 0 Q hne) λg hg=>?_
 rcases g with⟨b,off,c,bT,A,C⟩
 change v = .slice (some ⟨b,off,none⟩) a0.length c/\a0.length<=c/\A.length=off/\off+c*ak.K.sz<=(A++a0.flatMap ak.K.enc++C).length at hg
 obtain⟨rfl,hc,hA,hlen⟩:=hg
 change WP _ _ _ _ _ _ (ar b bT (A++a0.flatMap ak.K.enc++C)::F)
 have hsz:0<ak.K.sz:=dc
 have ml:∀ {p q:Nat},p<=q->p*ak.K.sz<=q*ak.K.sz:=λh=>Nat.mul_le_mul_right _ h
 have fl:(A++a0.flatMap ak.K.enc++C).length=off+a0.length*ak.K.sz+C.length:=by rw [List.length_append,List.length_append,cO,hA]
 have fd:((a0.drop i).flatMap ak.K.enc).length=(a0.length-i)*ak.K.sz:=by rw [cO,List.length_drop]
 have fy:(a2.flatMap ak.K.enc).length=a2.length*ak.K.sz:=cO _
 have s1:i*ak.K.sz+a2.length*ak.K.sz+(a0.length-i)*ak.K.sz=(a0.length+a2.length)*ak.K.sz:=by rw [<- Nat.add_mul,<- Nat.add_mul];congr 1;omega
 have s2:(i+a2.length)*ak.K.sz=i*ak.K.sz+a2.length*ak.K.sz:=Nat.add_mul ..
 have zl:(a0.take i++a2++a0.drop i).length=a0.length+a2.length:=by simp only [List.length_append,List.length_take,List.length_drop];omega
 refine WP.seq<|WP.seq<|WP.qB [(0,false),(1,false),(2,false),(3,false),(4,false),(5,false)] kr<|go 2<|rr Q Q Q (oE (a:=a0.length) (b:=a2.length) om)<|go 1<|Dv.capk Q T Q fk<|go 1<|WP.cond Q (λc2=>?_) (λc2=>?_)
 ·have hg:c<a0.length+a2.length:=by have:=of_decide_eq_true c2;omega
  refine WP.seq<|WP.qB [(0,false),(1,false),(2,false),(3,false),(4,false),(5,false),(6,false),(7,false),(8,true),(9,false)] kr<|go 2<|Dv.sV (o':=off) (m':=i) (c':=c) Q T Q fk fO ij dQ (fJ (m:=i) Q) (Nat.zero_le _) om (.inr Q) sM sM sM<|go 2<|rr Q Q Q (oE (a:=a0.length) (b:=a2.length) om)<|go 1<|rr Q Q Q (Dq (a:=a0.length+a2.length) (b:=i) om om)<|Dv.apmn (sz:=ak.K.sz) (jj:=0) (k1:=a0.length+a2.length-i) (N:=a0.length+a2.length) (Q:=(a0.take i).flatMap ak.K.enc) Q T Q Q fk U3 u1 u2 u3 u4 Q dc om om hg om h4 Q ?_ (Hd (Kd:=ak.K) hi hA) nofun (λw hw=>?_)
  ·rw [fl];have:=ml (Nat.le_of_lt hlt);omega
  rcases w with⟨b2,nc⟩
  replace hw:a0.length+a2.length<=nc:=hw
  refine gq 1 ?_
  generalize hZ:(Builtin.zeroCells (Value.cells _) ((b2,nc).2-i)).toList.map eq=Z
  have zz:Z.length=(nc-i)*ak.K.sz:=by rw [<- hZ,List.length_map,Array.length_toList,Builtin.zeroCells,Array.size_map,Array.size_range];rfl
  have ft:((a0.take i).flatMap ak.K.enc++Z).length=nc*ak.K.sz:=by rw [List.length_append,cO,List.length_take,Nat.min_eq_left hi,zz,<- Nat.add_mul];congr 1;omega
  have s3:=ml hw
  have s4:i*ak.K.sz+(a0.length-i)*ak.K.sz=a0.length*ak.K.sz:=by rw [<- Nat.add_mul];congr 1;omega
  refine WP.seq<|WP.qB [(0,false),(1,false),(2,false),(3,false),(4,true)] kr<|go 2<|Dv.sV (o':=i*ak.K.sz) (m':=a0.length+a2.length-i) (c':=nc-i) Q T Q fk fO ij (fJ (m:=i) Q) dQ om hw (.inl (Nat.lt_of_lt_of_le om hw)) (Nat.zero_add _) Q Q<|go 1<|Dv.Fv (jj:=0) (kk:=a2.length) Q T Q Q fk fO ij yR om Q ?_ nofun ?_
  ·rw [ft,fy];omega
  refine .fin ?_
  have l1:(oO ((a0.take i).flatMap ak.K.enc++Z) (i*ak.K.sz) (a2.flatMap ak.K.enc)).length=nc*ak.K.sz:=by rw [uw (by rw [ft,fy];omega),ft]
  refine WP.seq<|WP.Gb mX [(0,false),(1,false),(2,false),(3,false),(4,false),(5,false),(6,false),(7,false),(8,true)] kr<|go 3<|rr Q Q Q (oE (a:=i) (b:=a2.length) om)<|Dv.sV (o':=(i+a2.length)*ak.K.sz) (m':=a0.length-i) (c':=nc-(i+a2.length)) Q T Q fk fO ij (fJ (m:=i+a2.length) Q) dQ om hw (.inl (Nat.lt_of_lt_of_le om hw)) (Nat.zero_add _) om Q<|go 2<|Dv.sV (o':=off+i*ak.K.sz) (m':=a0.length-i) (c':=c-i) Q T Q fk fO ij (fJ (m:=i) Q) dQ hi hc (.inl om) Q Q Q<|Dv.Fv (jj:=0) (kk:=a0.length-i) Q T Q Q fk fO ij (yx (ab 1 Q) hi hA) (Nat.min_self _) Q ?_ (λ_=>ee kr) ?_
  ·rw [l1,fd];omega
  refine .fin ?_
  have l2:(oO (oO ((a0.take i).flatMap ak.K.enc++Z) (i*ak.K.sz) (a2.flatMap ak.K.enc)) ((i+a2.length)*ak.K.sz) ((a0.drop i).flatMap ak.K.enc)).length=nc*ak.K.sz:=by rw [uw (by rw [l1,fd];omega),l1]
  refine WP.seq<|WP.qB [(0,false),(1,false)] kr<|go 2<|wg (vA (Kd:=ak.K) (off:=0) (n:=a0.length+a2.length) (c:=nc) (zs:=a0.take i++a2++a0.drop i) 0 Q zl hw (by rw [l2];omega) (F2 hi)) λ_ _=>?_
  exact et (⟨.slice (some ⟨b2,0,none⟩) (a0.length+a2.length) nc,Q⟩:OV) 2 [1,0] 1
 have hg:a0.length+a2.length<=c:=by have:=of_decide_eq_false c2;omega
 refine WP.skip ?_
 have s3:=ml hg
 refine WP.seq<|WP.qB [(0,false),(1,false),(2,false),(3,false),(4,false),(5,false)] kr<|go 3<|rr Q Q Q (oE (a:=a0.length) (b:=a2.length) om)<|Dv.sV (o':=off) (m':=a0.length+a2.length) (c':=c) Q T Q fk fO ij dQ (fJ (m:=a0.length+a2.length) Q) (Nat.zero_le _) hg (.inr Q) sM sM sM<|go 1<|WP.seq<|WP.seq<|WP.qB [(0,false),(1,false),(2,false),(3,false),(4,false),(5,false),(6,false),(7,false)] kr<|go 4<|rr Q Q Q (oE (a:=i) (b:=a2.length) om)<|Dv.sV (o':=off+(i+a2.length)*ak.K.sz) (m':=a0.length-i) (c':=c-(i+a2.length)) Q T Q fk fO ij (fJ (m:=i+a2.length) Q) dQ om hg (.inl (Nat.lt_of_lt_of_le om hg)) Q om Q<|Dv.ovl Q T Q Q (ab 0 Q) h2 hsz func261 kr Q xf261 xg261 Q fk fO<|go 1<|WP.cond Q (λc3=>?_) (λc3=>by cases c3)
 refine WP.seq<|WP.Gb mX [(0,false),(1,false),(2,false),(3,false),(4,false),(5,false),(6,false),(7,false),(8,true)] kr<|go 3<|rr Q Q Q (oE (a:=i) (b:=a2.length) om)<|Dv.sV (o':=off+(i+a2.length)*ak.K.sz) (m':=a0.length-i) (c':=c-(i+a2.length)) Q T Q fk fO ij (fJ (m:=i+a2.length) Q) dQ om hg (.inl (Nat.lt_of_lt_of_le om hg)) Q om Q<|go 2<|Dv.sV (o':=off+i*ak.K.sz) (m':=a0.length+a2.length-i) (c':=c-i) Q T Q fk fO ij (fJ (m:=i) Q) dQ om hg (.inl om) Q Q Q<|Dv.Fv (jj:=0) (kk:=a0.length-i) Q T Q Q fk fO ij (yx (ab 0 Q) hi hA) om Q ?_ (λ_=>ee kr) ?_
 ·rw [fd];omega
 refine .fin ?_
 have l1:(oO (A++a0.flatMap ak.K.enc++C) (off+(i+a2.length)*ak.K.sz) ((a0.drop i).flatMap ak.K.enc)).length=(A++a0.flatMap ak.K.enc++C).length:=uw (by rw [fd];omega)
 refine WP.seq<|WP.qB [(0,false),(1,false),(2,false),(3,false),(4,true)] kr<|go 2<|Dv.sV (o':=off+i*ak.K.sz) (m':=a0.length+a2.length-i) (c':=c-i) Q T Q fk fO ij (fJ (m:=i) Q) dQ om hg (.inl om) Q Q Q<|go 1<|Dv.Fv (jj:=0) (kk:=a2.length) Q T Q Q fk fO ij yR om Q ?_ nofun ?_
 ·rw [l1,fy];omega
 refine .fin<|WP.seq<|WP.qB [(0,false),(1,false)] kr<|go 2<|wg (vA (Kd:=ak.K) (off:=off) (n:=a0.length+a2.length) (c:=c) (zs:=a0.take i++a2++a0.drop i) 0 Q zl hg (by rw [uw (by rw [l1,fy];omega),l1];exact hlen) (GF hi hA om)) λ_ _=>?_
 exact et (⟨.slice (some ⟨b,off,none⟩) (a0.length+a2.length) c,Q⟩:OV) 1 [0] 0
theorem eN.c {p0_:OV} (h:eN.f a0 a1 a2=some r):Tr prog 263 [eq p0_.1,vI a1,agg (kC.enc a2)] [bO.O p0_ a0] (γ:=Unit) (λ_=>True) (λg=>lg []) (λg=>[bO.O p0_ r]):=by
 refine tf func263 h λR0 F H=>?_
 refine wr 1 1<|Dv.box Q T Q cA nofun λba=>.fin<|WP.seq<|wg (bO.eF 1 Q) λgb haa=>?_
 refine dg mX 8 128<|go 1<|Dv.aJ haa Q T Q<|fp haa Q T Q jr<|gl 3 [0,3]<|gr H λgc H=>?_
 have hac:a1.toNat<a0.fl.length:=cQ gc
 refine Dv.na Q T Q (ab 1 Q) Q pq oz oN gc.1 gc.2<|Dv.Ff (j:=a1.toNat) (f:=0) (jj:=1) a2 Q T Q Q (bx (kC.K.one _)) oz oN Q Q hac (Nat.le_of_ble_eq_true Q) Q (λ_=>ee kr)<|.fin<|dg mX 8 128<|go 1<|Dv.aJ haa Q T Q<|fp haa Q T Q uJ<|gl 4 [0,3]<|Dv.Js (jj:=2) a1 Q T Q Q Q Q uc (dP U9) (λ_=>ee kr)<|.fin<|ng (bO.shut (p:=p0_) (m:=(⟨a0.fl.set a1.toNat a2,mput a0.dA a2.kD a1⟩:bO)) (gb.1,gb.2.1,gb.2.2) haa (pm 4 [0,1,2,3])) λ_ _=>?_
 obtain rfl:=aW.out H
 exact re Q () 2 [1,0] 1 .nil
theorem heap_ahead.c (h:heap_ahead.f k a0 a1=some r):Pt prog 285 [agg (kC.enc a0),agg (kC.enc a1)] (vI r):=by
 refine pf func285 h λR0 F H=>?_
 refine wr 3 3<|Dv.box Q T Q cA nofun λba=>Dv.box Q T Q cA nofun λbc=>go 1<|wd mX 13 0<|gl 4 [1,0]<|el H λta haa H=>cl Q (cL 197) Q (dj.c haa)<|gl 4 [1,0]<|el H λtc hac H=>cl Q (cL 196) Q (bu.c hac)<|Dv.lit (aP .i64) ([ta,tc]:List Int) (css:=[[vI ta],[vI tc]]) Q T yn U3 c3 z3 Q dc dc Q ⟨(cells_one (ai Q)),⟨(cells_one (ai Q)),T⟩⟩ Q Q Q<|el H λte had H=>cl Q (cL 195) Q (b8.c had)<|gq 1 ?_
 cases H.out;exact ek 2
theorem heap_Heap_down.c {p0_:OV} (h:heap_Heap_down.f k a0 a1=some r):Tr prog 264 [eq p0_.1,vI a1] [bO.O p0_ a0] (γ:=Unit) (λ_=>True) (λg=>lg []) (λg=>[bO.O p0_ r]):=by
 refine tf func264 h λR0 F H=>?_
 refine wr 9 384<|go 1<|Dv.mD bO.nn Q T Q (ab 0 Q)<|vg (bO.eF 0 Q) λgb haa=>?_
 refine fp haa Q T Q jr<|gl 2 [0]<|gr H λgc H=>?_
 have hac:a1.toNat<a0.fl.length:=cQ gc
 refine Dv.na Q T Q (ab 1 Q) Q pq oz oN gc.1 gc.2<|Dv.kX (j:=a1.toNat) (f:=0) Q T Q (ab 1 Q) hac oz Q oN (Nat.le_of_ble_eq_true Q)<|al Q T DT nofun λba=>sy 0 ?_
 refine .fin<|WP.kW H id (λpa=>[(0,eq p0_.1),(1,vI pa.1),(4,iT ba)]) (λpa=>[ar ba 376 (kC.enc (a0.fl.getD a1.toNat default)),bO.O p0_ pa.2.2.2.2]++F) (λpa H=>?_) (λH=>?_)
 ·refine rg 4 8<|gl 3 [0]<|el H λta had H=>cx 2 [1,0] (cL 263) (eN.c had (p0_:=p0_)) nofun λ_ _=>?_
  refine .fin ?_
  obtain rfl:=aW.out H
  exact re Q () 2 [1,0] 1 .nil
 refine WP.block<|wg (bO.shut (p:=p0_) (m:=a0) (gb.1,gb.2.1,gb.2.2) haa (pm 4 [1,2,3,0])) λ_ _=>?_
 refine ws 2 [1,0] 0 ?_
 refine lq (λj_ (pc:Int×bO)=>heap_Heap_down.l0 k a0 a1 j_ pc.1 pc.2) (a1,a0) H [0,4] (λpc=>[(1,vI pc.1)]) (λpc=>[(1,bO.O p0_ pc.2)]) ?_
 rintro j_ ⟨xa,xb⟩ H
 rcases j_ with _ | ja
 ·exact(aW.no H).elim
 try dsimp only at H
 rw [heap_Heap_down.l0] at H
 refine WP.block<|so<|WP.kW H id (λpe=>[(0,eq p0_.1),(1,vI xa),(4,iT ba),(5,vI pe.1)]) (λpe=>[ar ba 376 (kC.enc (a0.fl.getD a1.toNat default)),bO.O p0_ xb]++F) (λpe H=>?_) (λH=>?_)
 ·refine WP.seq<|WP.seq<|wg (bO.eF 1 Q) λgi hae=>?_
  refine dg mX 19 0<|go 2<|Dv.aJ hae Q T Q<|fp hae Q T Q jr<|gl 1 [0]<|Dv.kl Q T Q (ab 1 Q) pq<|gp 2 ?_
  cases ca:decide ((xb.fl.length:Int)<=pe.1)
  rotate_left
  ·have H:=H.ct ca
   refine go 11<|WP.cond Q (λ_=>?_) nofun
   refine WP.exit ?_
   have H:=H.out
   refine ng (bO.shut (p:=p0_) (m:=xb) (gi.1,gi.2.1,gi.2.2) hae (pm 4 [0,1,2,3])) λ_ _=>?_
   refine ns 2 [1,0] 0 ?_
   exact jn (xa,pe.1,pe.2,true,xb) H
  have H:=H.cf ca
  refine gl 2 [3]<|Dv.aJ hae Q (gg Q) Q<|fp hae Q (gg Q) Q jr<|gl 2 [0]<|gr H λgj H=>?_
  have haf:pe.1.toNat<xb.fl.length:=cQ gj
  refine Dv.na Q (gg Q) Q (ab 1 Q) Q pq oz oN gj.1 gj.2<|Dv.kX (j:=pe.1.toNat) (f:=0) Q (gg Q) Q (ab 1 Q) haf oz Q oN (Nat.le_of_ble_eq_true Q)<|el H λtc hag H=>Dv.call Q (gg Q) (cL 285) Q (heap_ahead.c hag)<|go 2<|ce H ?_ ?_ <;> intro H
  ·refine WP.exit ?_
   have H:=H.out
   refine ng (bO.shut (p:=p0_) (m:=xb) (gi.1,gi.2.1,gi.2.2) hae (pm 4 [0,1,2,3])) λ_ _=>?_
   refine ns 2 [1,0] 0 ?_
   exact jn (xa,pe.1,pe.2,decide (tc<0),xb) H
  refine WP.skip<|wr 10 512<|go 3<|Dv.aJ hae Q T Q<|fp hae Q T Q jr<|gl 2 [0]<|gr H λgk H=>?_
  have hah:pe.1.toNat<xb.fl.length:=cQ gk
  refine Dv.na Q T Q (ab 1 Q) Q pq oz oN gk.1 gk.2<|Dv.kX (j:=pe.1.toNat) (f:=0) Q T Q (ab 1 Q) hah oz Q oN (Nat.le_of_ble_eq_true Q)<|vg (bO.shut (p:=p0_) (m:=xb) (gi.1,gi.2.1,gi.2.2) hae (pm 4 [0,1,2,3])) λ_ _=>?_
  refine el H λte hai H=>cx 2 [0,1] (cL 263) (eN.c hai (p0_:=p0_)) nofun λ_ _=>?_
  refine .fin<|rg 2 0<|go 2<|ns 2 [1,0] 0 ?_
  exact bk ja (pe.1,te) H
 refine WP.seq<|wg (bO.eF 1 Q) λgn haj=>?_
 refine dg mX 27 0<|go 3<|Dv.aJ haj Q T Q<|fp haj Q T Q jr<|gl 1 [0]<|Dv.kl Q T Q (ab 1 Q) pq<|gp 2 ?_
 cases cb:decide ((aE ((aE ((aE (2*xa))+1))+1))<(xb.fl.length:Int))
 ·have H:=H.cf cb
  refine go 18<|WP.cond Q nofun (λ_=>?_)
  refine WP.skip ?_
  have H:=H.out
  refine ng (bO.shut (p:=p0_) (m:=xb) (gn.1,gn.2.1,gn.2.2) haj (pm 4 [0,1,2,3])) λ_ _=>?_
  refine ns 2 [1,0] 0 ?_
  exact jn (aE ((aE (2*xa))+1),false) H
 have H:=H.ct cb
 refine go 1<|Dv.aJ haj Q (gg Q) Q<|fp haj Q (gg Q) Q jr<|gl 3 [0]<|gr H λgt H=>?_
 have hak:(aE ((aE ((aE (2*xa))+1))+1)).toNat<xb.fl.length:=cQ gt
 refine Dv.na Q (gg Q) Q (ab 1 Q) Q pq oz oN gt.1 gt.2<|Dv.kX (j:=((aE ((aE ((aE (2*xa))+1))+1)).toNat)) (f:=0) Q (gg Q) Q (ab 1 Q) hak oz Q oN (Nat.le_of_ble_eq_true Q)<|go 1<|Dv.aJ haj Q (gg Q) Q<|fp haj Q (gg Q) Q jr<|gl 2 [0]<|gr H λgu H=>?_
 have ham:(aE ((aE (2*xa))+1)).toNat<xb.fl.length:=cQ gu
 refine Dv.na Q (gg Q) Q (ab 1 Q) Q pq oz oN gu.1 gu.2<|Dv.kX (j:=((aE ((aE (2*xa))+1)).toNat)) (f:=0) Q (gg Q) Q (ab 1 Q) ham oz Q oN (Nat.le_of_ble_eq_true Q)<|el H λtg han H=>Dv.call Q (gg Q) (cL 285) Q (heap_ahead.c han)<|go 2<|cf H ?_ ?_ <;> intro H
 ·refine WP.skip ?_
  have H:=H.out
  refine ng (bO.shut (p:=p0_) (m:=xb) (gn.1,gn.2.1,gn.2.2) haj (pm 4 [0,1,2,3])) λ_ _=>?_
  refine ns 2 [1,0] 0 ?_
  exact jn (aE ((aE (2*xa))+1),decide (tg<0)) H
 refine rg 3 0<|gq 3 ?_
 have H:=H.out
 refine ng (bO.shut (p:=p0_) (m:=xb) (gn.1,gn.2.1,gn.2.2) haj (pm 4 [0,1,2,3])) λ_ _=>?_
 refine ns 2 [1,0] 0 ?_
 exact jn (aE ((aE ((aE (2*xa))+1))+1),decide (tg<0)) H
theorem gH.c {p0_:OV} (h:gH.f k a0 a1=some r):Tr prog 265 [eq p0_.1,vI a1] [bO.O p0_ a0] (γ:=Unit) (λ_=>True) (λg=>lg []) (λg=>[bO.O p0_ r]):=by
 refine tf func265 h λR0 F H=>?_
 refine wr 9 384<|go 1<|Dv.mD bO.nn Q T Q (ab 0 Q)<|vg (bO.eF 0 Q) λgb haa=>?_
 refine fp haa Q T Q jr<|gl 2 [0]<|gr H λgc H=>?_
 have hac:a1.toNat<a0.fl.length:=cQ gc
 refine Dv.na Q T Q (ab 1 Q) Q pq oz oN gc.1 gc.2<|Dv.kX (j:=a1.toNat) (f:=0) Q T Q (ab 1 Q) hac oz Q oN (Nat.le_of_ble_eq_true Q)<|al Q T DT nofun λba=>sy 0 ?_
 refine .fin<|WP.kW H id (λpa=>[(0,eq p0_.1),(1,vI pa.1),(4,iT ba)]) (λpa=>[ar ba 376 (kC.enc (a0.fl.getD a1.toNat default)),bO.O p0_ pa.2.2]++F) (λpa H=>?_) (λH=>?_)
 ·refine rg 4 8<|gl 3 [0]<|el H λta had H=>cx 2 [1,0] (cL 263) (eN.c had (p0_:=p0_)) nofun λ_ _=>?_
  refine .fin ?_
  obtain rfl:=aW.out H
  exact re Q () 2 [1,0] 1 .nil
 refine WP.block<|wg (bO.shut (p:=p0_) (m:=a0) (gb.1,gb.2.1,gb.2.2) haa (pm 4 [1,2,3,0])) λ_ _=>?_
 refine ws 2 [1,0] 0 ?_
 refine lq (λj_ (pc:Int×bO)=>gH.l0 k a0 a1 j_ pc.1 pc.2) (a1,a0) H [0,4] (λpc=>[(1,vI pc.1)]) (λpc=>[(1,bO.O p0_ pc.2)]) ?_
 rintro j_ ⟨xa,xb⟩ H
 rcases j_ with _ | ja
 ·exact(aW.no H).elim
 try dsimp only at H
 rw [gH.l0] at H
 refine WP.seq<|WP.seq<|wg (bO.eF 1 Q) λgi hae=>?_
 refine dg mX 16 0<|gp 3 ?_
 cases ca:decide (0<xa)
 ·have H:=H.cf ca
  refine go 13<|WP.cond Q nofun (λ_=>?_)
  refine WP.exit ?_
  have H:=H.out
  refine ng (bO.shut (p:=p0_) (m:=xb) (gi.1,gi.2.1,gi.2.2) hae (pm 4 [0,1,2,3])) λ_ _=>?_
  refine ns 2 [1,0] 0 ?_
  exact jn (xa,false,xb) H
 have H:=H.ct ca
 refine gl 2 [3]<|Dv.aJ hae Q (gg Q) Q<|fp hae Q (gg Q) Q jr<|gl 3 [0]<|bng Q Q Q Q (pX dc)<|gr H λgj H=>?_
 have haf:(aE ((aE (xa-1)).tdiv 2)).toNat<xb.fl.length:=cQ gj
 refine Dv.na Q (gg Q) Q (ab 1 Q) Q pq oz oN gj.1 gj.2<|Dv.kX (j:=((aE ((aE (xa-1)).tdiv 2)).toNat)) (f:=0) Q (gg Q) Q (ab 1 Q) haf oz Q oN (Nat.le_of_ble_eq_true Q)<|el H λtc hag H=>Dv.call Q (gg Q) (cL 285) Q (heap_ahead.c hag)<|go 2<|cf H ?_ ?_ <;> intro H
 ·refine WP.exit ?_
  have H:=H.out
  refine ng (bO.shut (p:=p0_) (m:=xb) (gi.1,gi.2.1,gi.2.2) hae (pm 4 [0,1,2,3])) λ_ _=>?_
  refine ns 2 [1,0] 0 ?_
  exact jn (xa,decide (tc<0),xb) H
 refine WP.skip<|WP.block<|wr 12 2048<|go 3<|Dv.aJ hae Q T Q<|fp hae Q T Q jr<|gl 3 [0]<|rr Q Q Q (pX dc)<|gr H λgk H=>?_
 have hah:(aE ((aE (xa-1)).tdiv 2)).toNat<xb.fl.length:=cQ gk
 refine Dv.na Q T Q (ab 1 Q) Q pq oz oN gk.1 gk.2<|Dv.kX (j:=((aE ((aE (xa-1)).tdiv 2)).toNat)) (f:=0) Q T Q (ab 1 Q) hah oz Q oN (Nat.le_of_ble_eq_true Q)<|vg (bO.shut (p:=p0_) (m:=xb) (gi.1,gi.2.1,gi.2.2) hae (pm 4 [0,1,2,3])) λ_ _=>?_
 refine el H λte hai H=>cx 2 [0,1] (cL 263) (eN.c hai (p0_:=p0_)) nofun λ_ _=>?_
 refine .fin<|rg 4 0<|go 2<|rr Q Q Q (pX dc)<|go 1<|ns 2 [1,0] 0 ?_
 exact bk ja (aE ((aE (xa-1)).tdiv 2),te) H
theorem im.c {p0_:OV} (h:im.f k a0 a1=some r):Tr prog 211 [eq p0_.1,vS a1] [bO.O p0_ a0] (γ:=Unit) (λ_=>True) (λg=>vB r.1) (λg=>[bO.O p0_ r.2]):=by
 refine tf func211 h λR0 F H=>?_
 refine so<|wr 11 0<|go 1<|Dv.mD bO.nn Q T Q (ab 0 Q)<|vg (bO.eF 0 Q) λgb haa=>?_
 refine fp haa Q T Q uJ<|gl 2 [0]<|Dv.mlk 0 Q T Q (ab 2 Q) Q uc (dP U9) z3 (λ_=>Q)<|go 1<|dZ Q T Q Q<|dZ Q T Q Q<|go 2<|WP.seq<|so<|ce H ?_ ?_ <;> intro H
 ·refine so<|wg (bO.shut (p:=p0_) (m:=a0) (gb.1,gb.2.1,gb.2.2) haa (pm 3 [0,1,2])) λ_ _=>?_
  cases H.out;exact et () 1 [0] 0
 refine WP.skip<|wr 6 32<|go 1<|Dv.aJ haa Q T Q<|fp haa Q T Q uJ<|gl 2 [0]<|Dv.mdl (jj:=2) Q T Q Q Q uc (dP U9) nofun<|.fin<|wr 7 0<|go 1<|Dv.aJ haa Q T Q<|fp haa Q T Q jr<|gl 1 [0]<|Dv.kl Q T Q (ab 1 Q) pq<|go 2<|wr 9 384<|go 1<|Dv.aJ haa Q T Q<|fp haa Q T Q jr<|gl 2 [0]<|gr H λgc H=>?_
 have hac:(aE ((a0.fl.length:Int)-1)).toNat<a0.fl.length:=cQ gc
 refine Dv.na Q T Q (ab 1 Q) Q pq oz oN gc.1 gc.2<|Dv.kX (j:=((aE ((a0.fl.length:Int)-1)).toNat)) (f:=0) Q T Q (ab 1 Q) hac oz Q oN (Nat.le_of_ble_eq_true Q)<|al Q T DT nofun λba=>sy 0 ?_
 refine .fin<|wr 10 576<|go 2<|Dv.aJ haa Q T Q<|fp haa Q T Q jr<|gl 2 [1]<|gr H λgi H=>Dv.Jt (jj:=2) Q T Q Q pq oz oN dQ (fg Q gi.1) (.inl Q) gi.2.1 gi.2.2 nofun (λva=>?_)
 refine Dv.aJ haa Q T Q<|fp haa Q T Q jr<|sx 1 Q T Q Q (cells_one cS) HF Q Q Q nofun ?_
 refine .fin<|WP.seq<|so<|cf H ?_ ?_ <;> intro H
 ·refine WP.skip<|so<|wg (bO.shut (p:=p0_) (m:=(⟨(a0.fl.take ((aE ((a0.fl.length:Int)-1)).toNat)).drop 0,jV a0.dA a1⟩:bO)) (gb.1,va,gb.2.2) haa (pm 4 [1,2,3,0])) λ_ _=>?_
  cases H.out;exact et () 2 [1,0] 1
 refine wr 4 8<|gl 3 [0]<|vg (bO.shut (p:=p0_) (m:=(⟨(a0.fl.take ((aE ((a0.fl.length:Int)-1)).toNat)).drop 0,jV a0.dA a1⟩:bO)) (gb.1,va,gb.2.2) haa (pm 4 [1,2,3,0])) λ_ _=>?_
 refine el H λta had H=>cx 2 [0,1] (cL 263) (eN.c had (p0_:=p0_)) nofun λ_ _=>?_
 refine .fin<|wr 3 4<|go 2<|el H λtc hae H=>cx 2 [0,1] (cL 264) (heap_Heap_down.c hae (p0_:=p0_)) nofun λ_ _=>?_
 refine .fin<|wg (bO.eF 0 Q) λgj haf=>?_
 refine dg mX 9 256<|go 2<|Dv.aJ haf Q T Q<|fp haf Q T Q uJ<|gl 3 [0,3]<|Dv.Be 0 Q T Q (ab 2 Q) Q uc (dP U9) z3 (λ_=>Q)<|el H λte hag H=>cx 4 [0,1,2,3] (cL 265) (Tr.pre (pre':=[ar gj.1 206 [eq gj.2.1.1,eq gj.2.2.1],own kC.K gj.2.1.1 tc.fl,mp Value.string (λx:Int=>vI x) gj.2.2.1 tc.dA]) (gH.c hag (p0_:=p0_)) (λF R w=>bO.shut (p:=p0_) (m:=tc) (r:=F) (gj.1,gj.2.1,gj.2.2) haf (List.Perm.refl _) R w)) pC λ_ _=>?_
 refine .fin<|sp ?_
 cases H.out;exact et () 2 [1,0] 1
theorem kN.c {p0_:OV} (h:kN.f k a0 a1 a2=some r):Tr prog 212 [eq p0_.1,vI a1,vS a2] [bO.O p0_ a0] (γ:=Unit) (λ_=>True) (λg=>lg []) (λg=>[bO.O p0_ r]):=by
 refine tf func212 h λR0 F H=>?_
 refine wr 3 4<|go 2<|el H λta haa H=>cx 1 [0] (cL 211) (im.c haa (p0_:=p0_)) nofun λ_ _=>?_
 refine .fin<|wr 13 4608<|go 2<|Dv.mD bO.nn Q T Q (ab 0 Q)<|vg (bO.eF 0 Q) λgb hac=>?_
 refine fp hac Q T Q jr<|gl 3 [0]<|Dv.lD (qs:=[vI a1,vS a2]) (css:=[[vI a1],[vS a2]]) Q T oz pl376 ID Q ⟨(cells_one (ai Q)),⟨(cells_one (ai Q)),T⟩⟩ Q Q<|Dv.lit kC.K ([(⟨a1,a2⟩:kC)]:List kC) (css:=[[vI a1,vS a2]]) Q T pq oz oN ID Q dc dc Q ⟨(bx (ae (ai Q) (ae (ai Q) cN))),T⟩ Q Q Q<|gr H λgc H=>ap kC.K 1 ([(⟨a1,a2⟩:kC)]:List kC) dG pq (.inr ⟨_,pq⟩) It gc nofun λva=>?_
 refine Dv.aJ hac Q T Q<|fp hac Q T Q jr<|sx 0 Q T Q Q (cells_one cS) HF Q Q Q nofun ?_
 refine .fin<|rg 8 128<|go 2<|Dv.aJ hac Q T Q<|fp hac Q T Q jr<|gl 1 [0]<|Dv.kl Q T Q (ab 1 Q) pq<|go 1<|vg (bO.shut (p:=p0_) (m:=(⟨ta.2.fl++([(⟨a1,a2⟩:kC)]:List kC),ta.2.dA⟩:bO)) (gb.1,va,gb.2.2) hac (pm 3 [0,1,2])) λ_ _=>?_
 refine el H λtc had H=>cx 1 [0] (cL 265) (gH.c had (p0_:=p0_)) nofun λ_ _=>?_
 refine .fin ?_
 obtain rfl:=aW.out H
 exact re Q () 1 [0] 0 .nil
theorem nj.c (h:nj.f a0=some r):Pt prog 213 [agg (ak.enc a0)] (vI r):=by
 refine pf func213 h λR0 F H=>?_
 refine wr 2 1<|Dv.box Q T Q cA nofun λba=>go 1<|Jq [0,0] ?_
 cases H.out;exact ek 1
theorem lC.c {p0_:OV} (h:lC.f k a0 a1=some r):Tr prog 135 [eq p0_.1,agg (ak.enc a1)] [bG.O p0_ a0] (γ:=Unit) (λ_=>True) (λg=>lg [vB r.1,vI r.2.1]) (λg=>[bG.O p0_ r.2.2]):=by
 refine tf func135 h λR0 F H=>?_
 refine wr 3 1<|Dv.box Q T Q cA nofun λba=>go 2<|WP.seq<|wr 8 0<|jf 4 [0] ?_
 cases ca:(a1.bf != 2)
 rotate_left
 ·have H:=H.ct ca
  refine go 4<|WP.cond Q (λ_=>?_) nofun
  refine sp ?_
  cases H.out;exact et () 2 [0,1] 1
 have H:=H.cf ca
 refine gl 1 [0]<|el H λta haa H=>Dv.call Q (gg Q) (cL 142) Q (jX.c haa)<|go 2<|ce H ?_ ?_ <;> intro H
 ·refine sp ?_
  cases H.out;exact et () 2 [0,1] 1
 refine WP.skip<|wr 8 0<|gl 2 [0]<|vg (bG.eF 1 Q) λgb hac=>?_
 refine el H λtc had H=>mH 4 [0,1,2,3] (cL 209) (Tr.fG (gX.c had (b0_:=gb.1) (v0_0:=gb.2.1) (v0_1:=gb.2.2)) (.cons (eb hac) (.cons cG .nil))) ?_
 refine go 1<|dZ Q T Q Q<|dZ Q T Q Q<|go 2<|WP.Gr H id (λpa=>[(0,eq p0_.1),(3,iT ba)]) (λpa=>[ar ba 80 (ak.enc a1),bG.O p0_ pa.2.2.2]++F) (λpa H=>?_) (λH=>?_)
 ·refine wr 7 0<|gl 2 [0]<|gr H λgc H=>rr Q Q Q (nA gc)<|gl 2 [0]<|gr H λgi H=>rr Q Q Q (nA gi)<|go 1<|wr 6 32<|go 1<|Dv.mD bG.nn Q T Q (ab 1 Q)<|vg (bG.eF 1 Q) λgj hae=>?_
  refine fp hae Q T Q BF<|gl 2 [0]<|el H λte haf H=>cx 4 [2,0,1,3] (cL 211) (im.c haf (p0_:=gj.2.2)) nofun λ_ _=>?_
  refine .fin<|WP.seq<|wu [3]<|cf H ?_ ?_ <;> intro H
  ·refine WP.skip<|so<|wg (bG.shut (p:=p0_) (m:=(⟨pa.2.2.2.fl,te.2⟩:bG)) (gj.1,gj.2.1,gj.2.2) hae (pm 4 [1,2,0,3])) λ_ _=>?_
   cases H.out;exact et () 2 [1,0] 1
  refine dg mX 8 128<|go 1<|Dv.aJ hae Q T Q<|fp hae Q T Q BF<|gl 2 [1,3]<|el H λtg hag H=>cl Q (cL 213) Q (nj.c hag)<|go 1<|el H λtj hah H=>cx 4 [0,1,2,3] (cL 212) (kN.c hah (p0_:=gj.2.2)) pC λ_ _=>?_
  refine .fin<|so<|wg (bG.shut (p:=p0_) (m:=(⟨pa.2.2.2.fl,tj⟩:bG)) (gj.1,gj.2.1,gj.2.2) hae (pm 4 [1,2,0,3])) λ_ _=>?_
  cases H.out;exact et () 2 [1,0] 1
 refine WP.block<|wd mX 25 0<|gp 2 ?_
 cases cb:tc.2
 ·have H:=H.cf cb
  refine go 23<|WP.cond Q nofun (λ_=>?_)
  refine so<|WP.cond Q nofun (λ_=>?_)
  refine dg mX 12 2304<|go 2<|Dv.aJ hac Q T Q<|fp hac Q T Q sk<|gl 3 [0,3]<|Dv.lit ak.K ([a1]:List ak) (css:=[ak.enc a1]) Q T fk fO ij z80 Q dc dc Q ⟨(bx (ak.K.one _)),T⟩ Q Q Q<|el H λtm hai H=>Dv.lS (pre:=[own ak.K gb.2.1.1 a0.fl]) (F:=[ar gb.1 154 [eq gb.2.1.1,eq gb.2.2.1],bO.O gb.2.2 a0.pQ,ar ba 80 (ak.enc a1)]++F) (λgk:OV=>[own ak.K gk.1 tm,ar gb.1 154 [eq gb.2.1.1,eq gb.2.2.1],bO.O gb.2.2 a0.pQ,ar ba 80 (ak.enc a1)]++F) Q T (cL 210) Q (gF.c hai (p0_:=gb.2.1)) (bN (L:=[ar gb.1 154 [eq gb.2.1.1,eq gb.2.2.1],own ak.K gb.2.1.1 a0.fl,bO.O gb.2.2 a0.pQ,ar ba 80 (ak.enc a1)]) (F:=F) [1,0,2,3] Q Q Q) Q pE (λgk _=>?_)
  refine Dv.aJ hac Q T Q<|fp hac Q T Q sk<|sx 1 Q T Q Q (cells_one cS) zZ Q Q Q pB ?_
  refine .fin ?_
  have H:=H.out
  refine ng (bG.shut (p:=p0_) (m:=(⟨tm,a0.pQ⟩:bG)) (gb.1,gk,gb.2.2) hac (pm 4 [1,0,2,3])) λ_ _=>?_
  refine ns 2 [1,0] 0 ?_
  exact jn (false,false,false,(⟨tm,a0.pQ⟩:bG)) H
 have H:=H.ct cb
 refine go 1<|Dv.aJ hac Q (gg Q) Q<|fp hac Q (gg Q) Q sk<|gl 2 [0]<|gr H λgn H=>?_
 have haj:tc.1.toNat<a0.fl.length:=cQ gn
 refine Dv.na Q (gg Q) Q (ab 1 Q) Q fk fO ij gn.1 gn.2<|Dv.kX (j:=tc.1.toNat) (f:=0) Q (gg Q) Q (ab 1 Q) haj fO Q ij (Nat.le_of_ble_eq_true Q)<|gl 1 [3]<|Dv.eqs [.int .i64 ((a0.fl.getD tc.1.toNat default).bf),.string ((a0.fl.getD tc.1.toNat default).aj),.string ((a0.fl.getD tc.1.toNat default).aC),.string ((a0.fl.getD tc.1.toNat default).bP),.string ((a0.fl.getD tc.1.toNat default).ah),.bool ((a0.fl.getD tc.1.toNat default).ay),.bool ((a0.fl.getD tc.1.toNat default).lO),.int .i64 ((a0.fl.getD tc.1.toNat default).cX),.int .i64 ((a0.fl.getD tc.1.toNat default).bU),.int .i64 ((a0.fl.getD tc.1.toNat default).bK),.int .i64 ((a0.fl.getD tc.1.toNat default).aS)] [.int .i64 a1.bf,.string a1.aj,.string a1.aC,.string a1.bP,.string a1.ah,.bool a1.ay,.bool a1.lO,.int .i64 a1.cX,.int .i64 a1.bU,.int .i64 a1.bK,.int .i64 a1.aS] Q (gg Q) Q Q Q Q Gl (λ_=>dJ 2 dc (λ_=>yL (a0.fl.getD tc.1.toNat default) a1))<|gp 1 ?_
 cases cg:decide (a0.fl.getD tc.1.toNat default=a1)
 rotate_left
 ·have H:=H.ct cg
  refine go 13<|WP.cond Q (λ_=>?_) nofun
  refine so<|wg (bG.shut (p:=p0_) (m:=a0) (gb.1,gb.2.1,gb.2.2) hac (pm 4 [0,1,2,3])) λ_ _=>?_
  have H:=H.cH
  cases H.out;exact et () 2 [1,0] 1
 have H:=H.cf cg
 refine gl 2 [3]<|Dv.aJ hac Q (gg Q) Q<|fp hac Q (gg Q) Q sk<|gl 2 [0]<|gr H λgt H=>?_
 have hak:tc.1.toNat<a0.fl.length:=cQ gt
 refine Dv.na Q (gg Q) Q (ab 1 Q) Q fk fO ij gt.1 gt.2<|Dv.kX (j:=tc.1.toNat) (f:=0) Q (gg Q) Q (ab 1 Q) hak fO Q ij (Nat.le_of_ble_eq_true Q)<|el H λtn ham H=>Dv.call Q (gg Q) (cL 144) Q (kM.c ham)<|go 4<|ce H ?_ ?_ <;> intro H
 ·refine so<|wg (bG.shut (p:=p0_) (m:=a0) (gb.1,gb.2.1,gb.2.2) hac (pm 4 [0,1,2,3])) λ_ _=>?_
  have H:=H.cH
  cases H.out;exact et () 2 [1,0] 1
 refine so<|WP.cond Q (λ_=>?_) nofun
 refine dg mX 8 128<|go 1<|Dv.aJ hac Q T Q<|fp hac Q T Q sk<|gl 3 [0,3]<|gr H λgu H=>?_
 have han:tc.1.toNat<a0.fl.length:=cQ gu
 refine Dv.na Q T Q (ab 1 Q) Q fk fO ij gu.1 gu.2<|Dv.Ff (j:=tc.1.toNat) (f:=0) (jj:=1) a1 Q T Q Q (bx (ak.K.one _)) fO ij Q Q han (Nat.le_of_ble_eq_true Q) Q (λ_=>ee kr)<|.fin ?_
 have H:=H.out
 refine ng (bG.shut (p:=p0_) (m:=(⟨a0.fl.set tc.1.toNat a1,a0.pQ⟩:bG)) (gb.1,gb.2.1,gb.2.2) hac (pm 4 [0,1,2,3])) λ_ _=>?_
 refine ns 2 [1,0] 0 ?_
 exact jn (true,!tn,true,(⟨a0.fl.set tc.1.toNat a1,a0.pQ⟩:bG)) H
theorem og.c (h:og.f a0=some r):Pt prog 136 [vS a0] (vS r):=by
 refine pf func136 h λR0 F H=>?_
 refine so<|wr 3 0<|go 1<|gr H λgb H=>rr Q Q Q (nA gb)<|gq 1 ?_
 cases H.out;exact ek 0
theorem bz.c (h:bz.f k a0 a1 a2=some r):Pt prog 266 [sl ak.K a0,vS a1,qA a2] (lg [vI r.1,vB r.2]):=by
 refine pf func266 h λR0 F H=>?_
 refine so<|wr 3 0<|go 1<|Dv.jw Q T Q fk<|go 1<|so<|sq H id [0,1,2,8] (λpa=>[(9,vI pa.1)]) (λ_=>[]) (λpa H=>?_) (λH=>?_)
 ·refine wr 16 0<|gp 5 ?_
  cases ca:decide (pa.1<(a0.length:Int))
  ·have H:=H.cf ca
   refine gq 11 ?_
   cases H.out;exact ek 0
  have H:=H.ct ca
  refine go 3<|gr H λgb H=>Dv.lE Q (gg Q) Q Q fk fO ij gb.1 gb.2<|mY Q (gg Q) Q nP Q<|go 1<|el H λta haa H=>Dv.ql (ret:=vI ta) Q (gg Q) Q Q ⟨_,_,_,haa,Q,Q⟩<|gq 4 ?_
  cases H.out;exact ek 0
 refine WP.block<|ws 0 [] 0 ?_
 refine lq (λj_ (pc:Int×Int)=>bz.l0 k a0 a1 a2 j_ pc.1 pc.2) (0,(a0.length:Int)) H [0,1,2,8] (λpc=>[(9,vI pc.1),(10,vI pc.2)]) (λ_=>[]) ?_
 rintro j_ ⟨xa,xb⟩ H
 rcases j_ with _ | ja
 ·exact(aW.no H).elim
 try dsimp only at H
 rw [bz.l0] at H
 refine WP.seq<|so<|cf H ?_ ?_ <;> intro H
 ·refine WP.exit ?_
  have H:=H.out
  exact jn (xa,xb,decide (xa<xb)) H
 refine WP.skip<|WP.block<|wr 7 0<|go 3<|Dv.I8 Q T Q U3 GG<|rr Q Q Q (Bz dc)<|Dv.I8 Q T Q GG U3<|go 1<|wr 8 0<|go 3<|gr H λgc H=>Dv.lE Q T Q Q fk fO ij gc.1 gc.2<|mY Q T Q nP Q<|go 1<|el H λtc hac H=>Dv.ql (ret:=vI tc) Q T Q Q ⟨_,_,_,hac,Q,Q⟩<|go 1<|cf H ?_ ?_ <;> intro H
 ·exact rg 2 0<|go 2<|bk ja (xa,aE ((IntKind.u64.wrap (aE (xa+xb))).fdiv 2)) H
 exact rg 3 0<|go 3<|bk ja (aE ((aE ((IntKind.u64.wrap (aE (xa+xb))).fdiv 2))+1),xb) H
theorem iN.c (h:iN.f a0 a1=some r):Pt prog 267 [agg (ak.enc a0),vS a1] (vI r):=by
 refine pf func267 h λR0 F H=>?_
 refine wr 2 1<|Dv.box Q T Q cA nofun λba=>go 1<|wr 5 0<|gl 3 [0]<|el H λta haa H=>cl Q (cL 196) Q (bu.c haa)<|gq 1 ?_
 cases H.out;exact ek 1
theorem jG.c {v0_0 v0_1:OV} {b0_:Nat} (h:jG.f k a0 a1=some r):Tr prog 214 [iT b0_,vS a1] [ar b0_ 156 [eq v0_0.1,eq v0_1.1],own ak.K v0_0.1 a0.fl] (γ:=Unit) (λ_=>True) (λg=>lg [vI r.1,vB r.2]) (λg=>[ar b0_ 156 [eq v0_0.1,eq v0_1.1],own ak.K v0_0.1 a0.fl]):=by
 refine tf func214 h λR0 F H=>?_
 refine so<|wr 10 0<|gl 5 [0]<|el H λta haa H=>mH (B:=[own ak.K v0_0.1 a0.fl]) 2 [1,0] (cL 266) (Pt.qz _ (Pt.fG (bz.c haa) (.cons cG (.cons cG (.cons (tA (cL 267) (by rintro _ _ ⟨a0_,a1_,r_,h_,rfl,rfl⟩;exact iN.c h_)) .nil)))) (.cons (ln (ab 0 Q)) (.cons nV (.cons nV .nil))) (vH (bH cJ (bH cJ jB)))) ?_
 refine dZ Q T Q Q<|dZ Q T Q Q<|gq 2 ?_
 cases H.out;exact et () 2 [0,1] 0
theorem j8.c (h:j8.f a0 a1=some r):Pt prog 268 [agg (ak.enc a0),vI a1] (vI r):=by
 refine pf func268 h λR0 F H=>?_
 refine wr 2 1<|Dv.box Q T Q cA nofun λba=>go 1<|WP.seq<|wu [0]<|WP.block<|WP.seq<|WP.block<|WP.seq<|WP.block<|WP.seq<|WP.seq<|so<|cf H ?_ ?_ <;> intro H
 ·refine WP.skip<|so<|cf H ?_ ?_ <;> intro H
  ·refine WP.skip<|WP.exit<|sp ?_
   cases H.out;exact ek 1
  refine WP.exit<|WP.seq<|wu [0]<|ce H ?_ ?_ <;> intro H
  ·refine sp ?_
   cases H.out;exact ek 1
  refine WP.skip<|WP.exit<|sp ?_
  cases H.out;exact ek 1
 refine WP.exit<|wu [0]<|ce H ?_ ?_ <;> intro H
 ·refine sp ?_
  cases H.out;exact ek 1
 refine WP.skip<|WP.seq<|wu [0]<|ce H ?_ ?_ <;> intro H
 ·refine sp ?_
  cases H.out;exact ek 1
 refine WP.skip<|WP.exit<|sp ?_
 cases H.out;exact ek 1
theorem gB.c (h:gB.f k a0 a1=some r):Pt prog 215 [agg (ak.enc a0),vI a1] (lg [vI r.1,vB r.2]):=by
 refine pf func215 h λR0 F H=>?_
 refine wr 3 1<|Dv.box Q T Q cA nofun λba=>go 2<|sr H id [] (λ_=>[]) (λ_=>[]) (λpa H=>?_) (λH=>?_)
 ·refine sp ?_
  cases H.out;exact ek 1
 refine wr 2 0<|Dv.GM (qs:=[vI 30,vI 90]) (css:=[[vI 30],[vI 90]]) Q T U380 U3 c3 z380 Q ⟨(cells_one (ai Q)),⟨(cells_one (ai Q)),T⟩⟩ Q Q<|go 1<|WP.block<|ws 1 [0] 0 ?_
 refine lq (λj_ (pc:Int)=>gB.l0 k a0 a1 j_ pc) 0 H [1,2,9] (λpc=>[(10,vI pc)]) (λ_=>[]) ?_
 rintro j_ xa H
 rcases j_ with _ | ja
 ·exact(aW.no H).elim
 try dsimp only at H
 rw [gB.l0] at H
 refine so<|WP.seq<|cf H ?_ ?_ <;> intro H
 ·refine WP.exit ?_
  have H:=H.out
  exact jn (xa,decide (xa<2)) H
 refine WP.skip<|WP.seq<|WP.block<|wr 2 0<|gr H λgb H=>Dv.ixa (Kd:=(aP .i64)) (xs:=([30,90]:List Int)) Q T Q Q Q U380 U3 Q c3 Q Q gb.1 gb.2 Q<|go 1<|wu [0]<|wd mX 13 0<|gp 4 ?_
 cases ca:decide (a1<(aE (a0.bK+((aP .i64).at ([30,90]:List Int) xa))))
 ·have H:=H.cf ca
  refine go 9<|WP.cond Q nofun (λ_=>?_)
  exact WP.skip<|rg 2 0<|go 2<|bk ja (aE (xa+1)) H
 have H:=H.ct ca
 refine gl 3 [0]<|el H λta haa H=>Dv.call Q (gg Q) (cL 268) Q (j8.c haa)<|gl 2 [0]<|el H λtc hac H=>Dv.call Q (gg Q) (cL 268) Q (j8.c hac)<|go 2<|cf H ?_ ?_ <;> intro H
 ·exact WP.skip<|rg 2 0<|go 2<|bk ja (aE (xa+1)) H
 refine sp ?_
 have H:=H.cH
 cases H.out;exact ek 1
theorem kj.c {p0_:OV} (h:kj.f k a0 a1=some r):Tr prog 137 [eq p0_.1,agg (ak.enc a1)] [bJ.O p0_ a0] (γ:=Unit) (λ_=>True) (λg=>lg [vB r.1,vI r.2.1]) (λg=>[bJ.O p0_ r.2.2]):=by
 refine tf func137 h λR0 F H=>?_
 refine wr 3 1<|Dv.box Q T Q cA nofun λba=>go 2<|WP.seq<|wr 8 0<|jf 4 [0] ?_
 cases ca:(a1.bf != 3)
 rotate_left
 ·have H:=H.ct ca
  refine go 4<|WP.cond Q (λ_=>?_) nofun
  refine sp ?_
  cases H.out;exact et () 2 [0,1] 1
 have H:=H.cf ca
 refine gl 1 [0]<|el H λta haa H=>Dv.call Q (gg Q) (cL 142) Q (jX.c haa)<|go 2<|ce H ?_ ?_ <;> intro H
 ·refine sp ?_
  cases H.out;exact et () 2 [0,1] 1
 refine WP.skip<|wr 9 0<|gl 3 [0]<|vg (bJ.eF 1 Q) λgb hac=>?_
 refine el H λtc had H=>mH 4 [0,1,2,3] (cL 214) (Tr.fG (jG.c had (b0_:=gb.1) (v0_0:=gb.2.1) (v0_1:=gb.2.2)) (.cons (eb hac) (.cons cG .nil))) ?_
 refine go 1<|dZ Q T Q Q<|dZ Q T Q Q<|go 2<|WP.Gr H id (λpa=>[(0,eq p0_.1),(3,iT ba)]) (λpa=>[ar ba 80 (ak.enc a1),bJ.O p0_ pa.2.2.2]++F) (λpa H=>?_) (λH=>?_)
 ·refine WP.seq<|wg (bJ.eF 1 Q) λgc hae=>?_
  refine dg mX 7 64<|go 1<|Dv.aJ hae Q T Q<|fp hae Q T Q Bw<|gl 3 [0,3]<|el H λte haf H=>cx 4 [2,0,1,3] (cL 211) (im.c haf (p0_:=gc.2.2)) pC λ_ _=>?_
  refine .fin<|WP.seq<|wr 7 0<|gl 1 [3]<|el H λtg hag H=>cl Q (cL 215) Q (gB.c hag)<|go 1<|dZ Q T Q Q<|dZ Q T Q Q<|go 2<|so<|cf H ?_ ?_ <;> intro H
  ·refine WP.skip<|so<|wg (bJ.shut (p:=p0_) (m:=(⟨pa.2.2.2.fl,te.2⟩:bJ)) (gc.1,gc.2.1,gc.2.2) hae (pm 4 [1,2,0,3])) λ_ _=>?_
   cases H.out;exact et () 2 [1,0] 1
  refine dg mX 8 128<|go 1<|Dv.aJ hae Q T Q<|fp hae Q T Q Bw<|gl 4 [1,3]<|el H λtj hah H=>cx 4 [0,1,2,3] (cL 212) (kN.c hah (p0_:=gc.2.2)) pC λ_ _=>?_
  refine .fin<|so<|wg (bJ.shut (p:=p0_) (m:=(⟨pa.2.2.2.fl,tj⟩:bJ)) (gc.1,gc.2.1,gc.2.2) hae (pm 4 [1,2,0,3])) λ_ _=>?_
  cases H.out;exact et () 2 [1,0] 1
 refine WP.block<|wd mX 14 0<|gp 2 ?_
 cases cb:tc.2
 ·have H:=H.cf cb
  refine go 12<|WP.cond Q nofun (λ_=>?_)
  refine so<|WP.cond Q nofun (λ_=>?_)
  refine dg mX 12 2304<|go 2<|Dv.aJ hac Q T Q<|fp hac Q T Q uD<|gl 3 [0,3]<|Dv.lit ak.K ([a1]:List ak) (css:=[ak.enc a1]) Q T fk fO ij z80 Q dc dc Q ⟨(bx (ak.K.one _)),T⟩ Q Q Q<|el H λtm hai H=>Dv.lS (pre:=[own ak.K gb.2.1.1 a0.fl]) (F:=[ar gb.1 156 [eq gb.2.1.1,eq gb.2.2.1],bO.O gb.2.2 a0.nm,ar ba 80 (ak.enc a1)]++F) (λgi:OV=>[own ak.K gi.1 tm,ar gb.1 156 [eq gb.2.1.1,eq gb.2.2.1],bO.O gb.2.2 a0.nm,ar ba 80 (ak.enc a1)]++F) Q T (cL 210) Q (gF.c hai (p0_:=gb.2.1)) (bN (L:=[ar gb.1 156 [eq gb.2.1.1,eq gb.2.2.1],own ak.K gb.2.1.1 a0.fl,bO.O gb.2.2 a0.nm,ar ba 80 (ak.enc a1)]) (F:=F) [1,0,2,3] Q Q Q) Q pE (λgi _=>?_)
  refine Dv.aJ hac Q T Q<|fp hac Q T Q uD<|sx 1 Q T Q Q (cells_one cS) zZ Q Q Q pB ?_
  refine .fin ?_
  have H:=H.out
  refine ng (bJ.shut (p:=p0_) (m:=(⟨tm,a0.nm⟩:bJ)) (gb.1,gi,gb.2.2) hac (pm 4 [1,0,2,3])) λ_ _=>?_
  refine ns 2 [1,0] 0 ?_
  exact jn (false,false,false,(⟨tm,a0.nm⟩:bJ)) H
 have H:=H.ct cb
 refine gl 2 [3]<|Dv.aJ hac Q (gg Q) Q<|fp hac Q (gg Q) Q uD<|gl 2 [0]<|gr H λgj H=>?_
 have haj:tc.1.toNat<a0.fl.length:=cQ gj
 refine Dv.na Q (gg Q) Q (ab 1 Q) Q fk fO ij gj.1 gj.2<|Dv.kX (j:=tc.1.toNat) (f:=0) Q (gg Q) Q (ab 1 Q) haj fO Q ij (Nat.le_of_ble_eq_true Q)<|el H λtn hak H=>Dv.call Q (gg Q) (cL 144) Q (kM.c hak)<|go 3<|ce H ?_ ?_ <;> intro H
 ·refine so<|wg (bJ.shut (p:=p0_) (m:=a0) (gb.1,gb.2.1,gb.2.2) hac (pm 4 [0,1,2,3])) λ_ _=>?_
  have H:=H.cH
  cases H.out;exact et () 2 [1,0] 1
 refine so<|WP.cond Q (λ_=>?_) nofun
 refine dg mX 8 128<|go 1<|Dv.aJ hac Q T Q<|fp hac Q T Q uD<|gl 3 [0,3]<|gr H λgk H=>?_
 have ham:tc.1.toNat<a0.fl.length:=cQ gk
 refine Dv.na Q T Q (ab 1 Q) Q fk fO ij gk.1 gk.2<|Dv.Ff (j:=tc.1.toNat) (f:=0) (jj:=1) a1 Q T Q Q (bx (ak.K.one _)) fO ij Q Q ham (Nat.le_of_ble_eq_true Q) Q (λ_=>ee kr)<|.fin ?_
 have H:=H.out
 refine ng (bJ.shut (p:=p0_) (m:=(⟨a0.fl.set tc.1.toNat a1,a0.nm⟩:bJ)) (gb.1,gb.2.1,gb.2.2) hac (pm 4 [0,1,2,3])) λ_ _=>?_
 refine ns 2 [1,0] 0 ?_
 exact jn (true,!tn,true,(⟨a0.fl.set tc.1.toNat a1,a0.nm⟩:bJ)) H
theorem oe.c (h:oe.f a0=some r):Pt prog 138 [vS a0] (vS r):=by
 refine pf func138 h λR0 F H=>?_
 refine so<|wr 3 0<|go 1<|gr H λgb H=>rr Q Q Q (nA gb)<|gq 1 ?_
 cases H.out;exact ek 0
theorem iF.c {p0_:OV} (h:iF.f k a0 a1=some r):Tr prog 81 [eq p0_.1,agg (ak.enc a1)] [lax,bY.O p0_ a0] (γ:=Unit) (λ_=>True) (λg=>vI r.1) (λg=>[lax,bY.O p0_ r.2]):=by
 refine tf func81 h λR0 F H=>?_
 refine wr 2 1<|Dv.box Q T Q cA nofun λba=>go 1<|so<|so<|so<|WP.seq<|wu [0]<|WP.block<|so<|ce H ?_ ?_ <;> intro H
 ·refine WP.seq<|wg (bY.eF 2 Q) λgb haa=>?_
  refine dg mX 17 2048<|go 1<|Dv.aJ haa Q T Q<|fp haa Q T Q iS<|gl 3 [0]<|Dv.aJ haa Q T Q<|fp haa Q T Q iS<|gl 3 [0,10]<|el H λta hac H=>cx 12 [4,3,0,1,2,5,6,7,8,9,10,11] (cL 95) (iI.c hac (p0_:=gb.2.2.2.2.1) (p1_:=gb.2.2.2.1)) pC λ_ _=>?_
  refine go 1<|dZ Q T Q Q<|dZ Q T Q Q<|go 2<|rg 4 0<|gl 1 [10]<|el H λtc had H=>cl Q (cL 98) Q (fi.c had)<|el H λte hae H=>mH 12 [11,0,1,2,3,4,5,6,7,8,9,10] (cL 66) (jP.c hae) ?_
  refine go 1<|WP.seq<|so<|cf H ?_ ?_ <;> intro H
  ·refine WP.skip<|so<|wg (bY.shut (p:=p0_) (m:=(⟨a0.av,a0.aG,a0.aq,(⟨a0.fall.aK,ta.2.2,a0.fall.ax,a0.fall.an,a0.fall.bQ⟩:Src),a0.aI,a0.aa⟩:bY)) (gb.1,gb.2.1,gb.2.2.1,gb.2.2.2.1,gb.2.2.2.2.1,gb.2.2.2.2.2.1,gb.2.2.2.2.2.2.1,gb.2.2.2.2.2.2.2.1,gb.2.2.2.2.2.2.2.2.1,gb.2.2.2.2.2.2.2.2.2) haa (pm 12 [2,3,4,1,0,5,6,7,8,9,10,11])) λ_ _=>?_
   cases H.out;exact et () 3 [1,2,0] 1
  refine rg 3 4<|go 2<|vg (bY.shut (p:=p0_) (m:=(⟨a0.av,a0.aG,a0.aq,(⟨a0.fall.aK,ta.2.2,a0.fall.ax,a0.fall.an,a0.fall.bQ⟩:Src),a0.aI,a0.aa⟩:bY)) (gb.1,gb.2.1,gb.2.2.1,gb.2.2.2.1,gb.2.2.2.2.1,gb.2.2.2.2.2.1,gb.2.2.2.2.2.2.1,gb.2.2.2.2.2.2.2.1,gb.2.2.2.2.2.2.2.2.1,gb.2.2.2.2.2.2.2.2.2) haa (pm 12 [2,3,4,1,0,5,6,7,8,9,10,11])) λ_ _=>?_
  refine el H λtg haf H=>cx 3 [0,1,2] (cL 65) (dO.c haf (p0_:=p0_)) nofun λ_ _=>?_
  refine .fin<|sp ?_
  cases H.out;exact et () 3 [1,2,0] 1
 refine so<|ce H ?_ ?_ <;> intro H
 ·refine WP.seq<|wg (bY.eF 2 Q) λgc hag=>?_
  refine dg mX 12 64<|go 1<|Dv.aJ hag Q T Q<|fp hag Q T Q iS<|gl 3 [0,10]<|el H λtj hah H=>cx 12 [5,0,1,2,3,4,6,7,8,9,10,11] (cL 135) (lC.c hah (p0_:=gc.2.2.2.2.2.1)) pC λ_ _=>?_
  refine go 1<|dZ Q T Q Q<|dZ Q T Q Q<|go 2<|rg 4 0<|gl 2 [10]<|el H λtm hai H=>cl Q (cL 136) Q (og.c hai)<|go 1<|WP.seq<|so<|cf H ?_ ?_ <;> intro H
  ·refine WP.skip<|so<|wg (bY.shut (p:=p0_) (m:=(⟨a0.av,a0.aG,a0.aq,(⟨a0.fall.aK,a0.fall.aA,tj.2.2,a0.fall.an,a0.fall.bQ⟩:Src),a0.aI,a0.aa⟩:bY)) (gc.1,gc.2.1,gc.2.2.1,gc.2.2.2.1,gc.2.2.2.2.1,gc.2.2.2.2.2.1,gc.2.2.2.2.2.2.1,gc.2.2.2.2.2.2.2.1,gc.2.2.2.2.2.2.2.2.1,gc.2.2.2.2.2.2.2.2.2) hag (pm 12 [1,2,3,4,5,0,6,7,8,9,10,11])) λ_ _=>?_
   cases H.out;exact et () 3 [1,2,0] 1
  refine rg 3 4<|go 2<|vg (bY.shut (p:=p0_) (m:=(⟨a0.av,a0.aG,a0.aq,(⟨a0.fall.aK,a0.fall.aA,tj.2.2,a0.fall.an,a0.fall.bQ⟩:Src),a0.aI,a0.aa⟩:bY)) (gc.1,gc.2.1,gc.2.2.1,gc.2.2.2.1,gc.2.2.2.2.1,gc.2.2.2.2.2.1,gc.2.2.2.2.2.2.1,gc.2.2.2.2.2.2.2.1,gc.2.2.2.2.2.2.2.2.1,gc.2.2.2.2.2.2.2.2.2) hag (pm 12 [1,2,3,4,5,0,6,7,8,9,10,11])) λ_ _=>?_
  refine el H λtn haj H=>cx 3 [0,1,2] (cL 65) (dO.c haj (p0_:=p0_)) nofun λ_ _=>?_
  refine .fin<|sp ?_
  cases H.out;exact et () 3 [1,2,0] 1
 refine WP.seq<|wg (bY.eF 2 Q) λgi hak=>?_
 refine dg mX 12 64<|go 1<|Dv.aJ hak Q T Q<|fp hak Q T Q iS<|gl 3 [0,10]<|el H λtp ham H=>cx 12 [6,0,1,2,3,4,5,7,8,9,10,11] (cL 137) (kj.c ham (p0_:=gi.2.2.2.2.2.2.1)) pC λ_ _=>?_
 refine go 1<|dZ Q T Q Q<|dZ Q T Q Q<|go 2<|rg 4 0<|gl 2 [10]<|el H λtq han H=>cl Q (cL 138) Q (oe.c han)<|go 1<|WP.seq<|so<|cf H ?_ ?_ <;> intro H
 ·refine WP.skip<|so<|wg (bY.shut (p:=p0_) (m:=(⟨a0.av,a0.aG,a0.aq,(⟨a0.fall.aK,a0.fall.aA,a0.fall.ax,tp.2.2,a0.fall.bQ⟩:Src),a0.aI,a0.aa⟩:bY)) (gi.1,gi.2.1,gi.2.2.1,gi.2.2.2.1,gi.2.2.2.2.1,gi.2.2.2.2.2.1,gi.2.2.2.2.2.2.1,gi.2.2.2.2.2.2.2.1,gi.2.2.2.2.2.2.2.2.1,gi.2.2.2.2.2.2.2.2.2) hak (pm 12 [1,2,3,4,5,6,0,7,8,9,10,11])) λ_ _=>?_
  cases H.out;exact et () 3 [1,2,0] 1
 refine rg 3 4<|go 2<|vg (bY.shut (p:=p0_) (m:=(⟨a0.av,a0.aG,a0.aq,(⟨a0.fall.aK,a0.fall.aA,a0.fall.ax,tp.2.2,a0.fall.bQ⟩:Src),a0.aI,a0.aa⟩:bY)) (gi.1,gi.2.1,gi.2.2.1,gi.2.2.2.1,gi.2.2.2.2.1,gi.2.2.2.2.2.1,gi.2.2.2.2.2.2.1,gi.2.2.2.2.2.2.2.1,gi.2.2.2.2.2.2.2.2.1,gi.2.2.2.2.2.2.2.2.2) hak (pm 12 [1,2,3,4,5,6,0,7,8,9,10,11])) λ_ _=>?_
 refine el H λtu hao H=>cx 3 [0,1,2] (cL 65) (dO.c hao (p0_:=p0_)) nofun λ_ _=>?_
 refine .fin<|sp ?_
 cases H.out;exact et () 3 [1,2,0] 1
theorem slices_Compact_string.c {p0_:OV} (h:slices_Compact_string.f a0=some r):Tr prog 269 [eq p0_.1] [own az p0_.1 a0] (γ:=OV) (λ_=>True) (λg=>eq g.1) (λg=>[own az g.1 r]):=by
 unfold slices_Compact_string.f at h
 obtain⟨h0,h5⟩:=(aW.of h).aF
 obtain rfl:=aW.out h5
 exact Ar (λar off cap ss w=>Go.Proofs.Any.slices_Compact_string Tryz.lays194 ar off cap ss w) (λq cap w=>Go.Proofs.Any.slices_Compact_string_empty Tryz.lays194 q cap w) h0
theorem member_Homes.c (h:member_Homes.f k a0=some r):Tr prog 286 [sl az a0] [] (γ:=OV) (λ_=>True) (λg=>eq g.1) (λg=>[own az g.1 r]):=by
 refine tf func286 h λR0 F H=>?_
 refine so<|so<|WP.kW H (λqa:(Int×Bool×(List BA))×OV=>qa.1) (λqa=>[(3,eq qa.2.1)]) (λqa=>[own az qa.2.1 qa.1.2.2]++F) (λqa H=>?_) (λH=>?_)
 ·obtain⟨pa,va⟩:=qa
  refine wr 2 2<|go 1<|el H λta haa H=>cx 1 [0] (cL 67) (slices_Sort_string.c haa (p0_:=va)) nofun λ_ _=>?_
  refine .fin<|wr 3 2<|go 1<|el H λtc hac H=>cx 1 [0] (cL 269) (slices_Compact_string.c hac (p0_:=va)) nofun λgb _=>?_
  refine gq 1 ?_
  cases H.out;exact et gb 1 [0] 0
 refine wr 3 0<|go 1<|Dv.jw Q T Q iu<|go 1<|WP.block<|wg (dX az none) λ_ _=>?_
 refine ws 1 [0] 0 ?_
 refine lq (λj_ (pc:Int×(List BA)×OV)=>member_Homes.l0 k a0 j_ pc.1 pc.2.1) (0,([]:List BA),iQ) H [7,8] (λpc=>[(3,eq pc.2.2.1),(9,vI pc.1)]) (λpc=>[(0,own az pc.2.2.1 pc.2.1)]) ?_
 rintro j_ ⟨xa,xb,vb⟩ H
 rcases j_ with _ | ja
 ·exact(aW.no H).elim
 try dsimp only at H
 rw [member_Homes.l0] at H
 refine so<|WP.seq<|cf H ?_ ?_ <;> intro H
 ·refine WP.exit ?_
  have H:=H.out
  exact jn ((xa,decide (xa<(a0.length:Int)),xb),vb) H
 refine WP.skip<|WP.seq<|WP.block<|wr 3 0<|gr H λgc H=>Dv.lE Q T Q Q iu U9 c9 gc.1 gc.2<|nK Q T Q o6 Q<|go 1<|wr 3 0<|go 1<|el H λte had H=>cl Q (cL 129) Q (lI.c had)<|go 1<|so<|cf H ?_ ?_ <;> intro H
 ·exact WP.skip<|rg 2 0<|go 2<|bk ja (aE (xa+1),xb,vb) H
 refine rg 5 8<|go 2<|Dv.lit az ([te]:List BA) (css:=[[vS te]]) Q T iu U9 c9 z9 Q dc dc Q ⟨(cells_one (ai Q)),T⟩ Q Q Q<|gr H λgi H=>ap az 0 ([te]:List BA) dG iu (.inr ⟨_,iu⟩) wE gi nofun λvd=>?_
 exact go 1<|rg 2 0<|go 2<|bk ja (aE (xa+1),xb++([te]:List BA),vd) H
theorem kA.c {b0_:Nat} {v0_0:OV} (h:kA.f k a0=some r):Tr prog 287 [iT b0_] [ar b0_ 274 [vS a0.cP,eq v0_0.1],iq Value.string bp.O v0_0.1 a0.aw] (γ:=OV) (λ_=>True) (λg=>eq g.1) (λg=>[ar b0_ 274 [vS a0.cP,eq v0_0.1],iq Value.string bp.O v0_0.1 a0.aw,own az g.1 r]):=by
  unfold kA.f at h
  obtain⟨m,hm,h1⟩:=(aW.of h).call
  obtain⟨h0,h5⟩:=h1.aF
  obtain rfl:=aW.out h5
  clear h h5
  refine Tr.body func287 (c:=_) Q ntmps287 (Nat.le_of_ble_eq_true Q) λR0 F=>?_
  refine so<|sp ?_
  refine WP.xX (β:=List Nat×OV) (λb=>b.1.Perm (List.range m.length)) (λb=>[(3,eq b.2.1)]) (λb=>[own az b.2.1 (eD m (λe=>some e.1) b.1),ar b0_ 274 [vS a0.cP,eq v0_0.1],iq Value.string bp.O v0_0.1 a0.aw]++F) (λb hb=>?_) ?_
  rotate_left
  · refine wr 3 6<|go 1<|cx 2 [0,1] (cL 238) (member_joined.c hm (b0_:=b0_) (v0_0:=v0_0)) nofun λgm _=>?_
    refine Dv.gh (l':=λ_:Unit=>[ar b0_ 274 [vS a0.cP,eq v0_0.1],iq Value.string bp.O v0_0.1 a0.aw,mp Value.string (λx:Int=>vI x) gm.1 m]++F) (bL (ok:=λ_=>True) λR w k=>⟨(),T,k⟩) (λ_ _=>?_)
    refine Dv.gh (l':=λ_:Unit=>[mp Value.string (λx:Int=>vI x) gm.1 m,ar b0_ 274 [vS a0.cP,eq v0_0.1],iq Value.string bp.O v0_0.1 a0.aw]++F) (bL (py 3 [2,0,1] 0 kr Q Q)) (λ_ _=>?_)
    refine Dv.Jp (jj:=0) Q T Q Q uc nofun (λq=>.fin ?_)
    refine WP.gh (l':=λ_:Unit=>[kG Value.string (λx:Int=>vI x) gm.1 q.1 m [],ar b0_ 274 [vS a0.cP,eq v0_0.1],iq Value.string bp.O v0_0.1 a0.aw]++F) (bL (ok:=λ_=>True) λR w k=>⟨(),T,k⟩) (λ_ _=>?_)
    refine WP.gh (l':=λ_:Unit=>[own az iQ.1 [],kG Value.string (λx:Int=>vI x) gm.1 q.1 m [],ar b0_ 274 [vS a0.cP,eq v0_0.1],iq Value.string bp.O v0_0.1 a0.aw]++F) (bL (dX az none)) (λ_ _=>?_)
    refine WP.block ?_
    refine WP.fG (E':=(λb:List Nat×OV=>[(3,eq b.2.1),(7,eq q.1)]) ([],iQ)) (aH Q (aH Q dD)) (WP.loop (β:=List Nat×OV) (λk b=>b.1.length+k=m.length) (λb=>[(3,eq b.2.1),(7,eq q.1)]) (λb=>[own az b.2.1 (eD m (λe=>some e.1) b.1),kG Value.string (λx:Int=>vI x) gm.1 q.1 m b.1,ar b0_ 274 [vS a0.cP,eq v0_0.1],iq Value.string bp.O v0_0.1 a0.aw]++F) ?_ (k:=m.length) (b:=([],iQ)) (Nat.zero_add _))
    rintro k ⟨is,v⟩ hk
    replace hk:is.length+k=m.length:=hk
    refine wr 2 1<|Dv.Jg (jj:=1) Q T Q Q nofun (λz hz=>?_)
    rcases z with _ | j
    · have hz:is.Perm (List.range m.length):=hz
      refine dZ Q T Q Q<|.fin<|WP.seq<|WP.cond Q nofun (λ_=>WP.exit ?_)
      refine Dn.gh (l':=λ_:Unit=>[own az v.1 (eD m (λe=>some e.1) is),kG Value.string (λx:Int=>vI x) gm.1 q.1 m is,ar b0_ 274 [vS a0.cP,eq v0_0.1],iq Value.string bp.O v0_0.1 a0.aw]++F) (bL (ok:=λ_=>True) λR w k=>⟨(),T,k⟩) (λ_ _=>?_)
      refine Dn.gh (l':=λ_:Unit=>[mp Value.string (λx:Int=>vI x) gm.1 m,own az v.1 (eD m (λe=>some e.1) is),ar b0_ 274 [vS a0.cP,eq v0_0.1],iq Value.string bp.O v0_0.1 a0.aw]++F) (bL (rB (pm 4 [1,0,2,3]))) (λ_ _=>?_)
      refine Dn.gh (l':=λ_:Unit=>[own az v.1 (eD m (λe=>some e.1) is),ar b0_ 274 [vS a0.cP,eq v0_0.1],iq Value.string bp.O v0_0.1 a0.aw]++F) (bL (py 4 [0,1,2,3] 1 kr Q Q)) (λ_ _=>?_)
      exact Jn.mk (is,v) hz (aH Q dD) (List.Perm.refl _)
    have hz:j<m.length/\j ∉ is/\is.length<m.length:=hz
    obtain⟨e,he⟩:∃ e,m[j]? = some e:=⟨_,gE hz.1⟩
    have hep:=he
    have hlt:=hz.2.2
    have hsl:=Nat.le_trans (qJ (m:=m) (f:=(λe=>some e.1)) (is:=is)) (Nat.le_of_lt hlt)
    have e1:nxV Value.string (λx:Int=>vI x) m (some j)=lg [vB true,vS e.1,vI e.2]:=by simp only [nxV,hep]
    rw [e1]
    refine dZ Q T Q Q<|.fin<|WP.seq<|WP.cond Q (λ_=>WP.skip ?_) nofun
    refine WP.gh (l':=λ_:Unit=>[own az v.1 (eD m (λe=>some e.1) is),kG Value.string (λx:Int=>vI x) gm.1 q.1 m (is++[j]),ar b0_ 274 [vS a0.cP,eq v0_0.1],iq Value.string bp.O v0_0.1 a0.aw]++F) (bL (ok:=λ_=>True) λR w k=>⟨(),T,k⟩) (λ_ _=>?_)
    refine WP.block<|wr 3 0<|Dv.Jr 1 Q T Q Q hep ?_
    refine dZ Q T Q Q<|gq 1 ?_
    have e6:=o7 (f:=(λe=>some e.1)) (is:=is) he rfl
    have hbd:(eD m (λe=>some e.1) is).length+([e.1]:List BA).length<=9223372036854775807/\((eD m (λe=>some e.1) is).length+([e.1]:List BA).length)*16<=140737488355328:=by rw [List.length_singleton];omega
    refine rg 5 8<|go 2<|Dv.lit az ([e.1]:List BA) (css:=[[vS e.1]]) Q T iu U9 c9 z9 Q dc dc Q ⟨(cells_one (ai Q)),T⟩ Q Q Q<|ap az 0 ([e.1]:List BA) dG iu (.inr ⟨_,iu⟩) wE hbd nofun λv9=>go 1 ?_
    rw [e6]
    exact qt.mk (k-1) (is++[j],v9) om (by show(is++[j]).length+(k-1)=_;rw [List.length_append,List.length_singleton];omega) (aH Q (aH Q dD)) (List.Perm.refl _)
  obtain⟨is,v3⟩:=b
  replace hb:is.Perm (List.range m.length):=hb
  have hp:=pP (f:=(λe=>some e.1)) hb
  have hs:slices_Sort_string.f (eD m (λe=>some e.1) is)=some (aY (m.map (·.1))):=by
    have e7:m.filterMap (λe=>some e.1)=m.map (·.1):=by rw [<- List.filterMap_eq_map];rfl
    rw [e7] at hp
    unfold slices_Sort_string.f Sp.aF
    rw [if_pos (by rw [hp.length_eq,List.length_map];omega),xG hp]
  refine wr 2 2<|go 1<|cx 3 [0,1,2] (cL 67) (slices_Sort_string.c hs (p0_:=v3)) nofun λ_ _=>.fin ?_
  refine so<|rt i2 Q v3 3 [1,2,0] 0 (.cons (aQ Q) .nil)
theorem ll.c {v0_0:OV} {b0_:Nat} (h:ll.f k a0=some r):Tr prog 270 [iT b0_] [ar b0_ 274 [vS a0.cP,eq v0_0.1],iq Value.string bp.O v0_0.1 a0.aw] (γ:=OV) (λ_=>True) (λg=>eq g.1) (λg=>[ar b0_ 274 [vS a0.cP,eq v0_0.1],iq Value.string bp.O v0_0.1 a0.aw,own az g.1 r]):=by
 refine tf func270 h λR0 F H=>?_
 refine so<|wr 4 6<|go 1<|el H λta haa H=>cx 2 [0,1] (cL 287) (kA.c haa (b0_:=b0_) (v0_0:=v0_0)) nofun λgb _=>?_
 refine el H λtc hac H=>cx 3 [2,0,1] (cL 286) (Tr.qz [own az gb.1 ta] (member_Homes.c hac) (.cons (ln (ab 0 Q)) .nil) (λ_=>cJ) (λ_=>(qU (sR CR) rC))) nofun λgc _=>?_
 refine gq 1 ?_
 cases H.out;exact et gc 4 [0,2,3,1] 1
theorem eX.c {v0_0:OV} {b0_:Nat} (h:eX.f k a0 a1=some r):Tr prog 217 [iT b0_,vS a1] [ar b0_ 150 [eq v0_0.1],iq Value.string bM.O v0_0.1 a0.b9] (γ:=OV) (λ_=>True) (λg=>eq g.1) (λg=>[ar b0_ 150 [eq v0_0.1],iq Value.string bM.O v0_0.1 a0.b9,own az g.1 r]):=by
 refine tf func217 h λR0 F H=>?_
 refine so<|wr 5 12<|go 2<|el H λta haa H=>cx 2 [0,1] (cL 92) (aV.c haa (b0_:=b0_) (v0_0:=v0_0)) nofun λva _=>?_
 refine vg (bM.eF 2 Q) λgb hac=>?_
 refine el H λtc had H=>cx 4 [0,1,2,3] (cL 270) (Tr.fG (ll.c had (b0_:=gb.1) (v0_0:=gb.2)) (.cons (eb hac) .nil)) nofun λgc _=>?_
 refine go 1<|wg (bM.shut (p:=va) (m:=ta) (gb.1,gb.2) hac (pm 5 [0,1,2,3,4])) λ_ _=>?_
 refine wg (gI (aV.r haa) (pm 4 [3,0,1,2])) λ_ _=>?_
 cases H.out;exact et gc 3 [2,0,1] 0
theorem fj.c {p0_:OV} (h:fj.f k a0 a1=some r):Tr prog 216 [eq p0_.1,vS a1] [au.O p0_ a0] (γ:=OV) (λ_=>True) (λg=>eq g.1) (λg=>[au.O p0_ a0,own az g.1 r]):=by
 refine tf func216 h λR0 F H=>?_
 refine so<|so<|WP.kW H (λqa:(Int×Int×Bool×(List BA)×(List BA))×OV×OV=>qa.1) (λqa=>[(5,eq qa.2.1.1)]) (λqa=>[au.O p0_ a0,own az qa.2.1.1 qa.1.2.2.2.1,own az qa.2.2.1 qa.1.2.2.2.2]++F) (λqa H=>?_) (λH=>?_)
 ·obtain⟨pa,va,vb⟩:=qa
  refine wr 2 2<|go 1<|el H λta haa H=>cx 3 [1,0,2] (cL 67) (slices_Sort_string.c haa (p0_:=va)) nofun λ_ _=>?_
  refine .fin<|wr 3 2<|go 1<|el H λtc hac H=>cx 3 [0,1,2] (cL 269) (slices_Compact_string.c hac (p0_:=va)) nofun λgb _=>?_
  refine gq 1 ?_
  cases H.out;exact et gb 3 [2,1,0] 1
 refine wr 5 4<|go 2<|el H λte had H=>cx 1 [0] (cL 130) (gG.c had (p0_:=p0_)) nofun λgc _=>?_
 refine Dv.kl Q T Q (ab 1 Q) iu<|go 1<|WP.block<|wg (dX az none) λ_ _=>?_
 refine ws 3 [1,2,0] 0 ?_
 refine lq (λj_ (pc:Int×(List BA)×OV)=>fj.l0 k a0 te j_ pc.1 pc.2.1) (0,([]:List BA),iQ) H [0,10,11] (λpc=>[(5,eq pc.2.2.1),(12,vI pc.1)]) (λpc=>[(2,own az pc.2.2.1 pc.2.1)]) ?_
 rintro j_ ⟨xa,xb,vd⟩ H
 rcases j_ with _ | ja
 ·exact(aW.no H).elim
 try dsimp only at H
 rw [fj.l0] at H
 refine so<|WP.seq<|cf H ?_ ?_ <;> intro H
 ·refine WP.exit ?_
  have H:=H.out
  refine ns 3 [0,2,1] 0 ?_
  exact jn (((te.length:Int),xa,decide (xa<(te.length:Int)),xb,te),vd,gc) H
 refine WP.skip<|WP.seq<|WP.block<|wr 3 0<|gr H λgi H=>?_
 have hae:xa.toNat<te.length:=cQ gi
 refine Dv.na Q T Q (ab 1 Q) Q iu U9 c9 gi.1 gi.2<|Dv.D5 (j:=xa.toNat) (f:=0) (p:=vS (te.getD xa.toNat default)) Q T Q (ab 1 Q) hae U9 Q Q<|go 1<|rg 6 24<|go 3<|vg (au.eF 0 Q) λgj haf=>?_
 refine el H λtg hag H=>cx 4 [0,1,2,3] (cL 217) (Tr.fG (eX.c hag (b0_:=gj.1) (v0_0:=gj.2)) (.cons (eb haf) (.cons cG .nil))) nofun λgk _=>?_
 refine gr H λgn H=>ap az 4 tg (Ft (ab 2 Q)) iu (.inr ⟨_,iu⟩) wE gn nofun λve=>?_
 refine go 1<|rg 2 0<|go 2<|ng (au.shut (p:=p0_) (m:=a0) (gj.1,gj.2) haf (pm 5 [0,1,2,3,4])) λ_ _=>?_
 refine ns 4 [1,0,2,3] 1 ?_
 exact bk ja (aE (xa+1),xb++tg,ve) H
theorem jI.c {p0_:OV} (h:jI.f k a0 a1=some r):Tr prog 139 [eq p0_.1,agg (ak.enc a1)] [au.O p0_ a0] (γ:=OV) (λ_=>True) (λg=>eq g.1) (λg=>[au.O p0_ a0,own az g.1 r]):=by
 refine tf func139 h λR0 F H=>?_
 refine wr 2 1<|Dv.box Q T Q cA nofun λba=>go 1<|WP.seq<|WP.block<|wr 4 0<|gl 1 [0]<|el H λta haa H=>cl Q (cL 142) Q (jX.c haa)<|go 2<|ce H ?_ ?_ <;> intro H
 ·refine so<|wg (dX az none) λ_ _=>?_
  cases H.out;exact et iQ 3 [1,2,0] 1
 refine wu [0]<|ce H ?_ ?_ <;> intro H
 ·refine wr 5 8<|gl 3 [0]<|el H λtc hac H=>cx 2 [1,0] (cL 216) (fj.c hac (p0_:=p0_)) nofun λgb _=>?_
  refine gq 1 ?_
  cases H.out;exact et gb 3 [2,0,1] 1
 refine WP.skip<|wr 5 8<|gl 3 [0]<|vg (au.eF 1 Q) λgc had=>?_
 refine el H λte hae H=>cx 3 [0,1,2] (cL 217) (Tr.fG (eX.c hae (b0_:=gc.1) (v0_0:=gc.2)) (.cons (eb had) (.cons cG .nil))) nofun λgi _=>?_
 refine go 1<|wg (au.shut (p:=p0_) (m:=a0) (gc.1,gc.2) had (pm 4 [0,1,2,3])) λ_ _=>?_
 cases H.out;exact et gi 3 [2,0,1] 1
theorem j6.c {c0:BA} (h:j6.f a0 c0=some r):Pt prog 140 [vS a0,rp [vS c0]] (vB r):=by
 refine pf func140 h λR0 F H=>?_
 refine so<|wr 4 0<|go 1<|nK Q T Q o6 Q<|gq 2 ?_
 cases H.out;exact ek 0
theorem lL.c {p0_:OV} (h:lL.f k a0 a1 a2=some r):Tr prog 82 [eq p0_.1,vS a1,agg (ak.enc a2)] [au.O p0_ a0] (γ:=OV) (λ_=>True) (λg=>eq g.1) (λg=>[au.O p0_ a0,own az g.1 r]):=by
 refine tf func82 h λR0 F H=>?_
 refine wr 3 3<|Dv.box Q T Q cE nofun λba=>Dv.box Q T Q cA nofun λbc=>go 1<|wr 6 20<|gl 2 [0]<|el H λta haa H=>cx 3 [2,0,1] (cL 139) (jI.c haa (p0_:=p0_)) nofun λgb _=>?_
 refine Dv.gh (nB (E':=[(0,eq p0_.1),(1,vS a1),(2,agg (ak.enc a2)),(4,rp [vS a1]),(5,iT bc),(6,jQ),(9,eq gb.1)]) (l':=[au.O p0_ a0,own az gb.1 ta,ar bc 80 (ak.enc a2)]++F) 3 Q (ao Q aB (ao Q aB (ao Q aB (ao Q jx (ao Q aB (ao Q aB (ao Q aB iG))))))) (fI (.cons bn (.cons bn (.cons bn .nil))) λ_=>bn)) (λ_ _=>?_)
 refine Dv.Im (Q:=kJ (λa0_=>j6.f a0_ a1)) (L:=[]) (cL 140) (by rintro _ _ ⟨a0_,r_,h_,rfl,rfl⟩;exact(j6.c h_).tr) Q T Q Q<|el H λtc hac H=>cx 3 [1,0,2] (cL 115) (Tr.zF (A:=[own az gb.1 ta]) (L:=[]) (B:=λgc:OV=>[own az gc.1 tc]) (slices_DeleteFunc_string_xo.c hac (p0_:=gb) (X1_:=(pk [])))) nofun λgc _=>?_
 refine gq 1 ?_
 cases H.out;exact et gc 3 [2,1,0] 1
theorem qZ.c (h:qZ.f a0=some r):Tr prog 141 [vI a0] [] (γ:=OV) (λ_=>True) (λg=>lg [eq g.1,vI r.2]) (λg=>[ig cF.O g r.1]):=by
 refine tf func141 h λR0 F H=>?_
 refine so<|WP.seq<|wr 6 0<|gp 3 ?_
 rcases bm H with⟨ca,H⟩|⟨ca,H⟩
 rotate_left
 ·refine sh 5 ca<|sh 6 ca<|go 3<|WP.cond Q (λ_=>?_) nofun
  refine so<|wg (fW (O:=cF.O)) λ_ _=>?_
  cases H.out;exact et dK 1 [0] 0
 refine sh 5 ca<|sh 6 ca ?_
 refine go 3<|ce H ?_ ?_ <;> intro H
 ·refine so<|wg (fW (O:=cF.O)) λ_ _=>?_
  cases H.out;exact et dK 1 [0] 0
 refine WP.skip<|wr 6 10<|go 1<|Dv.Gj aZ.kv (λx:ak=>agg (ak.enc x)) Q T nofun (λva=>?_)
 refine Dv.lD (qs:=[vI a0,jQ,eq va.1,vI 0]) (css:=[[vI a0],[eq va.1]]) Q T E4 pl211 z211 Q ⟨(cells_one (ai Q)),⟨(cells_one cS),T⟩⟩ Q Q<|Dv.box Q T Q cA nofun λba=>go 2<|wg (dX aZ.K none) λ_ _=>?_
 refine wg (cF.shut (p:=(⟨.pointer (some ⟨ba,0,none⟩),Q⟩:OV)) (m:=(⟨a0,([]:List aZ),([]:List (aZ×ak)),0⟩:cF)) (ba,iQ,va) Q (pm 3 [1,0,2])) λ_ _=>?_
 cases H.out;exact et (⟨.pointer (some ⟨ba,0,none⟩),Q⟩:OV) 1 [0] 0
theorem nq.c (h:nq.f k a0 a1 a2 a3=some r):Tr prog 83 [vS a0,vS a1,vI a2,vI a3] [] (γ:=OV) (λ_=>True) (λg=>lg [eq g.1,vI r.2]) (λg=>[ig aO.O g r.1]):=by
 refine tf func83 h λR0 F H=>?_
 refine so<|WP.seq<|wr 13 0<|go 1<|el H λta haa H=>cl Q (cL 26) Q (ew.c haa)<|gp 2 ?_
 rcases bm H with⟨ca,H⟩|⟨ca,H⟩
 rotate_left
 ·refine sh 15 ca<|sh 16 ca<|go 9<|WP.cond Q (λ_=>?_) nofun
  refine so<|wg (fW (O:=aO.O)) λ_ _=>?_
  cases H.out;exact et dK 1 [0] 0
 refine sh 15 ca<|sh 16 ca<|go 1<|el H λtc hac H=>Dv.call Q (gg Q) (cL 26) Q (ew.c hac)<|gp 3 ?_
 rcases bm H with⟨cb,H⟩|⟨cb,H⟩
 rotate_left
 ·refine sh 19 cb<|sh 20 cb<|sh 21 cb<|go 4<|WP.cond Q (λ_=>?_) nofun
  refine so<|wg (fW (O:=aO.O)) λ_ _=>?_
  cases H.out;exact et dK 1 [0] 0
 refine sh 19 cb<|sh 20 cb<|sh 21 cb ?_
 refine go 4<|ce H ?_ ?_ <;> intro H
 ·refine so<|wg (fW (O:=aO.O)) λ_ _=>?_
  cases H.out;exact et dK 1 [0] 0
 refine WP.skip<|wr 7 2<|go 1<|el H λte had H=>cx 0 [] (cL 141) (qZ.c had) nofun λgb _=>?_
 refine go 1<|dZ Q T Q Q<|dZ Q T Q Q<|go 2<|WP.seq<|so<|ce H ?_ ?_ <;> intro H
 ·refine so<|wg (fW (O:=aO.O)) λ_ _=>?_
  cases H.out;exact et dK 2 [1,0] 1
 refine WP.skip<|wr 7 2<|go 1<|el H λtg hae H=>cx 1 [0] (cL 27) (kP.c hae) nofun λgc _=>?_
 refine go 1<|dZ Q T Q Q<|dZ Q T Q Q<|go 2<|WP.seq<|so<|ce H ?_ ?_ <;> intro H
 ·refine so<|wg (fW (O:=aO.O)) λ_ _=>?_
  cases H.out;exact et dK 3 [1,2,0] 2
 refine WP.skip<|wr 8 32<|go 4<|gr H λgi H=>vg (gT 1 Q (Bq gi)) λ_ _=>?_
 refine gr H λgj H=>vg (gT 1 Q (Bq gj)) λ_ _=>?_
 refine Dv.lD (qs:=[eq gb.1,vS a0,vS a1,eq gc.1,eq (.pointer none)]) (css:=[[eq gb.1],[vS a0],[vS a1],[eq gc.1]]) Q T CU pl161 z161 Q ⟨(cells_one cS),⟨(cells_one (ai Q)),⟨(cells_one (ai Q)),⟨(cells_one cS),T⟩⟩⟩⟩ Q Q<|Dv.box Q T Q cA nofun λba=>go 2<|wg (fW (O:=jU.O)) λ_ _=>?_
 refine wg (aO.shut (p:=(⟨.pointer (some ⟨ba,0,none⟩),Q⟩:OV)) (m:=(⟨te.1.getD default,a0,a1,tg.1.getD default,none⟩:aO)) (ba,gb,gc,dK) Q (pm 4 [1,3,2,0])) λ_ _=>?_
 cases H.out;exact et (⟨.pointer (some ⟨ba,0,none⟩),Q⟩:OV) 1 [0] 0
theorem bX.c {X1_:As} {p0_:OV} (h:bX.f k a0 a1=some r):Tr prog 272 [eq p0_.1,qo X1_ a1] [own aZ.K p0_.1 a0,X1_] (γ:=Unit) (λ_=>True) (λg=>vI r) (λg=>[own aZ.K p0_.1 a0,X1_]):=by
 refine tf func272 h λR0 F H=>?_
 refine so<|sr H id [] (λ_=>[]) (λ_=>[]) (λpa H=>?_) (λH=>?_)
 ·refine sp ?_
  cases H.out;exact et () 2 [0,1] 0
 refine wr 3 0<|go 1<|Dv.kl Q T Q (ab 0 Q) nQ<|go 1<|WP.block<|ws 2 [0,1] 0 ?_
 refine lq (λj_ (pc:Int)=>bX.l0 k a0 a1 j_ pc) 0 H [0,1,7] (λpc=>[(8,vI pc)]) (λ_=>[]) ?_
 rintro j_ xa H
 rcases j_ with _ | ja
 ·exact(aW.no H).elim
 try dsimp only at H
 rw [bX.l0] at H
 refine so<|WP.seq<|cf H ?_ ?_ <;> intro H
 ·refine WP.exit ?_
  have H:=H.out
  exact jn (xa,decide (xa<(a0.length:Int))) H
 refine WP.skip<|WP.seq<|WP.block<|so<|wr 6 0<|go 3<|gr H λgb H=>?_
 have haa:xa.toNat<a0.length:=cQ gb
 refine Dv.na Q T Q (ab 0 Q) Q nQ nM oM gb.1 gb.2<|Dv.kX (j:=xa.toNat) (f:=0) Q T Q (ab 0 Q) haa nM Q oM (Nat.le_of_ble_eq_true Q)<|el H λta hac H=>Dv.qT (ret:=vB ta) (X:=X1_) (F:=[own aZ.K p0_.1 a0]++F) Q T Q Q ⟨_,_,hac,Q,Q⟩ (bN (L:=[own aZ.K p0_.1 a0,X1_]) (F:=F) [1,0] Q Q Q)<|.fin<|cf H ?_ ?_ <;> intro H
 ·exact WP.skip<|rg 2 0<|go 2<|bk ja (aE (xa+1)) H
 refine sp ?_
 have H:=H.cH
 cases H.out;exact et () 2 [0,1] 0
theorem slices_DeleteFunc_Key_xo.c {X1_:As} {p0_:OV} (h:slices_DeleteFunc_Key_xo.f k a0 a1=some r):Tr prog 219 [eq p0_.1,qo X1_ a1] [own aZ.K p0_.1 a0,X1_] (γ:=OV) (λ_=>True) (λg=>eq g.1) (λg=>[X1_,own aZ.K g.1 r]):=by
 refine tf func219 h λR0 F H=>?_
 refine so<|wr 4 0<|go 2<|el H λta haa H=>mH 2 [0,1] (cL 272) (bX.c haa (p0_:=p0_) (X1_:=X1_)) ?_
 refine go 1<|WP.seq<|so<|ce H ?_ ?_ <;> intro H
 ·refine sp ?_
  cases H.out;exact et p0_ 2 [1,0] 0
 refine WP.skip<|sq H id [0] (λpa=>[(5,vI pa.1)]) (λpa=>[(0,own aZ.K p0_.1 pa.2.2.2)]) (λpa H=>?_) (λH=>?_)
 ·refine wr 4 8<|go 2<|gr H λgb H=>vg (oT 0 Q (List.length_pos_iff.1 (Nat.lt_of_le_of_lt (Nat.zero_le _) gb.2))) λgc hac=>?_
  refine Dv.sV (o':=gc.2.1+pa.1.toNat*aZ.K.sz) (m':=pa.2.2.2.length-pa.1.toNat) (c':=gc.2.2-pa.1.toNat) Q T ((show opv _ _=some (eq p0_.1) from Q).trans (congrArg (λz=>some (eq z)) hac.1)) nQ nM oM (fg Q gb.1) dQ (Nat.le_of_lt gb.2) hac.2 (.inl (Nat.lt_of_lt_of_le gb.2 hac.2)) Q Q Q<|Dv.GJ (jj:=0) (⟨0,eE,eE,eE,false⟩:aZ) Q T Q nQ Dx Q Q (λu hu=>List.all_eq_true.1 (show(Value.cells _).toList.all (λu=>u.oneCell')=true by kernel_rfl) u hu) hac.1 Q gb.2 Q nofun<|.fin<|wr 4 4<|go 2<|gr H λgi H=>Dv.Jt (jj:=0) Q T Q Q nQ nM oM dQ (fg Q gi.1) (.inl Q) gi.2.1 gi.2.2 nofun (λva=>?_)
  refine gq 1 ?_
  cases H.out;exact et va 2 [1,0] 0
 refine so<|WP.block<|ws 2 [0,1] 0 ?_
 refine lq (λj_ (pc:Int×Int×(List aZ))=>slices_DeleteFunc_Key_xo.l0 k a1 j_ pc.1 pc.2.1 pc.2.2) (ta,aE (ta+1),a0) H [0,1] (λpc=>[(5,vI pc.1),(6,vI pc.2.1)]) (λpc=>[(0,own aZ.K p0_.1 pc.2.2)]) ?_
 rintro j_ ⟨xa,xb,xc⟩ H
 rcases j_ with _ | ja
 ·exact(aW.no H).elim
 try dsimp only at H
 rw [slices_DeleteFunc_Key_xo.l0] at H
 refine WP.seq<|wr 4 0<|go 2<|Dv.kl Q T Q (ab 0 Q) nQ<|go 1<|cf H ?_ ?_ <;> intro H
 ·refine WP.exit ?_
  have H:=H.out
  exact jn (xa,xb,decide (xb<(xc.length:Int)),xc) H
 refine WP.skip<|WP.seq<|WP.block<|wr 6 48<|go 2<|gr H λgj H=>?_
 have had:xb.toNat<xc.length:=cQ gj
 refine Dv.na Q T Q (ab 0 Q) Q nQ nM oM gj.1 gj.2<|Dv.kX (j:=xb.toNat) (f:=0) Q T Q (ab 0 Q) had nM Q oM (Nat.le_of_ble_eq_true Q)<|al Q T Bt nofun λba=>sy 0 ?_
 refine .fin<|wr 4 0<|gl 2 [0]<|el H λtc hae H=>Dv.qT (ret:=vB tc) (X:=X1_) (F:=[ar ba 264 (aZ.enc (xc.getD xb.toNat default)),own aZ.K p0_.1 xc]++F) Q T Q Q ⟨_,_,hae,Q,Q⟩ (bN (L:=[ar ba 264 (aZ.enc (xc.getD xb.toNat default)),own aZ.K p0_.1 xc,X1_]) (F:=F) [2,0,1] Q Q Q)<|go 1<|cf H ?_ ?_ <;> intro H
 ·refine WP.skip<|rg 3 0<|go 3<|ns 3 [0,1,2] 1 ?_
  exact bk ja (xa,aE (xb+1),xc) H
 refine wr 5 16<|gl 3 [0]<|gr H λgk H=>?_
 have haf:xa.toNat<xc.length:=cQ gk
 refine Dv.na Q T Q (ab 1 Q) Q nQ nM oM gk.1 gk.2<|Dv.Ff (j:=xa.toNat) (f:=0) (jj:=1) (xc.getD xb.toNat default) Q T Q Q (bx (aZ.K.one _)) nM oM Q Q haf (Nat.le_of_ble_eq_true Q) Q nofun<|.fin<|rg 3 0<|go 3<|rg 3 0<|go 3<|ns 3 [0,1,2] 1 ?_
 exact bk ja (aE (xa+1),aE (xb+1),xc.set xa.toNat (xc.getD xb.toNat default)) H
theorem ei.c {c0:aZ} (h:ei.f a0 c0=some r):Pt prog 220 [agg (aZ.enc a0),rp [vI c0.bf,vS c0.aj,vS c0.aC,vS c0.ah,vB c0.ay]] (vB r):=by
 refine pf func220 h λR0 F H=>?_
 refine wr 2 1<|Dv.box Q T Q cA nofun λba=>go 1<|wr 4 0<|gl 1 [0]<|mY Q T Q sg264 Q<|Dv.eqs [.int .i64 a0.bf,.string a0.aj,.string a0.aC,.string a0.ah,.bool a0.ay] [.int .i64 c0.bf,.string c0.aj,.string c0.aC,.string c0.ah,.bool c0.ay] Q T Q Q Q Q HQ (λ_=>dJ 2 dc (λ_=>Ac a0 c0))<|gq 1 ?_
 cases H.out;exact ek 1
theorem bZ.c {p0_:OV} (h:bZ.f k a0 a1=some r):Tr prog 145 [eq p0_.1,agg (aZ.enc a1)] [cF.O p0_ a0] (γ:=Unit) (λ_=>True) (λg=>lg []) (λg=>[cF.O p0_ r]):=by
 refine tf func145 h λR0 F H=>?_
 refine wr 1 1<|Dv.box Q T Q cA nofun λba=>.fin<|WP.seq<|wg (cF.eF 1 Q) λgb haa=>?_
 refine dg mX 6 32<|go 1<|Dv.aJ haa Q T Q<|fp haa Q T Q rj<|gl 2 [0,3]<|Dv.mdlq (jj:=2) Q T Q Q Q (aZ.kq a1) yC rH (λ_=>ee kr)<|.fin<|rg 10 576<|go 2<|Dv.aJ haa Q T Q<|fp haa Q T Q l6<|gl 1 [0]<|Dv.gh (nB (E':=[(0,eq p0_.1),(1,agg (aZ.enc a1)),(3,rp [vI a1.bf,vS a1.aj,vS a1.aC,vS a1.ah,vB a1.ay]),(9,eq p0_.1),(13,eq gb.2.1.1)]) (l':=[ar gb.1 211 [vI a0.bw,eq gb.2.1.1,eq gb.2.2.1,vI a0.da],own aZ.K gb.2.1.1 a0.bA,mp aZ.kv (λx:ak=>agg (ak.enc x)) gb.2.2.1 (jV a0.dA a1)]++F) 3 Q (ao Q aB (ao Q aB (ao Q jx (ao Q aB (ao Q aB iG))))) (fI (.cons bn (.cons bn (.cons bn .nil))) λ_=>bn)) (λ_ _=>?_)
 refine Dv.Im (Q:=pF (λa0_=>ei.f a0_ a1)) (L:=[]) (cL 220) (by rintro _ _ ⟨a0_,r_,h_,rfl,rfl⟩;exact(ei.c h_).tr) Q T Q Q<|el H λta hac H=>cx 3 [1,0,2] (cL 219) (Tr.zF (A:=[own aZ.K gb.2.1.1 a0.bA]) (L:=[]) (B:=λgc:OV=>[own aZ.K gc.1 ta]) (slices_DeleteFunc_Key_xo.c hac (p0_:=gb.2.1) (X1_:=(pk [])))) nofun λgc _=>?_
 refine Dv.aJ haa Q T Q<|fp haa Q T Q l6<|sx 1 Q T Q Q (cells_one cS) Ef Q Q Q nofun ?_
 refine .fin<|ng (cF.shut (p:=p0_) (m:=(⟨a0.bw,ta,jV a0.dA a1,a0.da⟩:cF)) (gb.1,gc,gb.2.2) haa (pm 3 [1,0,2])) λ_ _=>?_
 obtain rfl:=aW.out H
 exact re Q () 1 [0] 0 .nil
theorem gK.c {p0_:OV} (h:gK.f k a0 a1=some r):Tr prog 84 [eq p0_.1,agg (ak.enc a1)] [cF.O p0_ a0] (γ:=Unit) (λ_=>True) (λg=>lg [agg (ak.enc r.1),vB r.2.1,vI r.2.2.1]) (λg=>[cF.O p0_ r.2.2.2]):=by
 refine tf func84 h λR0 F H=>?_
 refine wr 4 3<|Dv.box Q T Q cA nofun λba=>al Q T qP nofun λbc=>go 2<|WP.seq<|wr 3 0<|gl 1 [1]<|el H λta haa H=>cl Q (cL 142) Q (jX.c haa)<|go 1<|ce H ?_ ?_ <;> intro H
 ·refine wr 4 2<|Dv.lD (qs:=[vI 0,vS eE,vS eE,vS eE,vS eE,vB false,vB false,vI 0,vI 0,vI 0,vI 0]) (css:=[]) Q T fO s5 z80 Q T Q Q<|sy 0 ?_
  refine gq 2 ?_
  cases H.out;exact rt i2 Q () 3 [0,1,2] 2 (.cons (aL Q fO Q ij (ab 0 Q) Q) (.cons (aQ Q) (.cons (aQ Q) .nil)))
 refine WP.skip<|wr 4 12<|gl 1 [1]<|el H λtc hac H=>cl Q (cL 143) Q (nk.c hac)<|al Q T Bt nofun λbd=>sy 0 ?_
 refine .fin<|WP.seq<|wg (cF.eF 3 Q) λgb had=>?_
 refine dg mX 12 1536<|go 1<|Dv.aJ had Q T Q<|fp had Q T Q rj<|gl 2 [0,3]<|Dv.IQ (⟨0,eE,eE,eE,eE,false,false,0,0,0,0⟩:ak) Q T Q (ab 2 Q) Q (aZ.kq tc) yC rH z80 (λ_=>⟨_,Q,Cs.Jo Q⟩)<|go 1<|dZ Q T Q Q<|dZ Q T Q Q<|al Q T qP pD λbe=>sx 0 Q T Q Q cA sz80 Q Q Q pD ?_
 refine go 1<|WP.seq<|wr 7 0<|gp 2 ?_
 rcases bm H with⟨ca,H⟩|⟨ca,H⟩
 ·refine sh 25 ca<|sh 9 ca<|sh 26 ca<|sh 27 ca<|go 5<|WP.cond Q nofun (λ_=>?_)
  refine WP.skip<|wr 3 4<|gl 2 [4]<|vg (cF.shut (p:=p0_) (m:=a0) (gb.1,gb.2.1,gb.2.2) had (pm 7 [1,2,3,0,4,5,6])) λ_ _=>?_
  refine el H λte hae H=>cx 5 [0,1,2,3,4] (cL 145) (bZ.c hae (p0_:=p0_)) nofun λ_ _=>?_
  refine .fin<|WP.seq<|wg (cF.eF 0 Q) λgc haf=>?_
  refine dg mX 11 1152<|go 2<|Dv.aJ haf Q T Q<|fp haf Q T Q l6<|gl 2 [0,4]<|Dv.lit aZ.K ([tc]:List aZ) (css:=[aZ.enc tc]) Q T nQ nM oM Dx Q dc dc Q ⟨(bx (aZ.K.one _)),T⟩ Q Q Q<|gr H λgi H=>Dv.uX (Kd:=aZ.K) (jj:=1) (ys:=([tc]:List aZ)) (λva:OV=>[ar gc.1 211 [vI te.bw,eq gc.2.1.1,eq gc.2.2.1,vI te.da],own aZ.K va.1 (te.bA++([tc]:List aZ)),mp aZ.kv (λx:ak=>agg (ak.enc x)) gc.2.2.1 te.dA,ar be 80 (ak.enc ((mget a0.dA tc).getD (⟨0,eE,eE,eE,eE,false,false,0,0,0,0⟩:ak))),ar bd 264 (aZ.enc tc),ar bc 80 [vI 0,vS eE,vS eE,vS eE,vS eE,vB false,vB false,vI 0,vI 0,vI 0,vI 0],ar ba 80 (ak.enc a1)]++F) Q T Q Q Q dG nQ (.inr ⟨_,nQ⟩) Dd Q dc gi Q pD (λva=>?_)
  refine Dv.aJ haf Q T Q<|fp haf Q T Q l6<|sx 0 Q T Q Q (cells_one cS) Ef Q Q Q pB ?_
  refine .fin<|wd mX 7 64<|go 1<|Dv.aJ haf Q T Q<|fp haf Q T Q rj<|gl 3 [0,4,6]<|Dv.Fw (jj:=2) a1 Q T Q Q Q (aZ.kq tc) Q yC rH (λ_=>ee kr)<|.fin<|WP.seq<|wd mX 10 0<|go 1<|Dv.aJ haf Q T Q<|fp haf Q T Q l6<|gl 1 [0]<|Dv.kl Q T Q (ab 1 Q) nQ<|go 1<|Dv.aJ haf Q T Q<|fp haf Q T Q BT<|gl 2 [0]<|ce H ?_ ?_ <;> intro H
  ·refine wr 4 2<|Dv.lD (qs:=[vI 0,vS eE,vS eE,vS eE,vS eE,vB false,vB false,vI 0,vI 0,vI 0,vI 0]) (css:=[]) Q T fO s5 z80 Q T Q Q<|sy 5 ?_
   refine go 2<|wg (cF.shut (p:=p0_) (m:=(⟨te.bw,te.bA++([tc]:List aZ),mput te.dA tc a1,te.da⟩:cF)) (gc.1,va,gc.2.2) haf (pm 7 [0,1,2,3,4,5,6])) λ_ _=>?_
   cases H.out;exact rt i2 Q () 5 [1,2,3,4,0] 4 (.cons (aL Q fO Q ij (ab 3 Q) Q) (.cons (aQ Q) (.cons (aQ Q) .nil)))
  refine WP.skip<|wd mX 13 6144<|go 1<|Dv.aJ haf Q T Q<|fp haf Q T Q rj<|gl 2 [0]<|Dv.aJ haf Q T Q<|fp haf Q T Q l6<|gl 1 [0]<|gr H λgj H=>?_
  have hag:(0:Int).toNat<(te.bA++([tc]:List aZ)).length:=cQ gj
  refine Dv.na Q T Q (ab 1 Q) Q nQ nM oM gj.1 gj.2<|Dv.kX (j:=((0:Int).toNat)) (f:=0) Q T Q (ab 1 Q) hag nM Q oM (Nat.le_of_ble_eq_true Q)<|Dv.Ix (⟨0,eE,eE,eE,eE,false,false,0,0,0,0⟩:ak) Q T Q (ab 2 Q) Q (aZ.kq ((te.bA++([tc]:List aZ)).getD ((0:Int).toNat) default)) yC rH z80 (λ_=>⟨_,Q,Cs.Jo Q⟩)<|al Q T qP pD λbg=>sv 0 ?_
  refine .fin<|wr 8 128<|go 2<|Dv.aJ haf Q T Q<|fp haf Q T Q l6<|gl 1 [1]<|gr H λgk H=>?_
  have hah:(0:Int).toNat<(te.bA++([tc]:List aZ)).length:=cQ gk
  refine Dv.na Q T Q (ab 2 Q) Q nQ nM oM gk.1 gk.2<|Dv.kX (j:=((0:Int).toNat)) (f:=0) Q T Q (ab 2 Q) hah nM Q oM (Nat.le_of_ble_eq_true Q)<|vg (cF.shut (p:=p0_) (m:=(⟨te.bw,te.bA++([tc]:List aZ),mput te.dA tc a1,te.da⟩:cF)) (gc.1,va,gc.2.2) haf (pm 8 [1,2,3,0,4,5,6,7])) λ_ _=>?_
  refine el H λtg hai H=>cx 6 [0,1,2,3,4,5] (cL 145) (bZ.c hai (p0_:=p0_)) nofun λ_ _=>?_
  refine .fin<|wr 8 128<|go 1<|Dv.mD cF.nn Q T Q (ab 0 Q)<|vg (cF.eF 0 Q) λgn haj=>?_
  refine fp haj Q T Q uz<|gl 2 [0]<|Dv.aJ haj Q T Q<|fp haj Q T Q uz<|sy 0 ?_
  refine .fin<|wr 4 2<|gl 1 [3]<|sy 6 ?_
  refine go 2<|wg (cF.shut (p:=p0_) (m:=(⟨tg.bw,tg.bA,tg.dA,aE (tg.da+1)⟩:cF)) (gn.1,gn.2.1,gn.2.2) haj (pm 8 [0,1,2,3,4,5,6,7])) λ_ _=>?_
  cases H.out;exact rt i2 Q () 6 [1,2,3,4,5,0] 5 (.cons (aL Q fO Q ij (ab 4 Q) Q) (.cons (aQ Q) (.cons (aQ Q) .nil)))
 refine sh 25 ca<|sh 9 ca<|sh 26 ca<|sh 27 ca ?_
 refine gl 2 [6,0]<|el H λtj hak H=>Dv.call Q (gg Q) (cL 144) Q (kM.c hak)<|go 2<|ce H ?_ ?_ <;> intro H
 ·refine wr 4 2<|Dv.lD (qs:=[vI 0,vS eE,vS eE,vS eE,vS eE,vB false,vB false,vI 0,vI 0,vI 0,vI 0]) (css:=[]) Q T fO s5 z80 Q T Q Q<|sy 5 ?_
  refine go 2<|wg (cF.shut (p:=p0_) (m:=a0) (gb.1,gb.2.1,gb.2.2) had (pm 7 [1,2,3,0,4,5,6])) λ_ _=>?_
  cases H.out;exact rt i2 Q () 5 [1,2,3,4,0] 4 (.cons (aL Q fO Q ij (ab 3 Q) Q) (.cons (aQ Q) (.cons (aQ Q) .nil)))
 refine WP.skip<|wr 3 4<|gl 2 [4]<|vg (cF.shut (p:=p0_) (m:=a0) (gb.1,gb.2.1,gb.2.2) had (pm 7 [1,2,3,0,4,5,6])) λ_ _=>?_
 refine el H λtm ham H=>cx 5 [0,1,2,3,4] (cL 145) (bZ.c ham (p0_:=p0_)) nofun λ_ _=>?_
 refine .fin<|WP.seq<|wg (cF.eF 0 Q) λgt han=>?_
 refine dg mX 11 1152<|go 2<|Dv.aJ han Q T Q<|fp han Q T Q l6<|gl 2 [0,4]<|Dv.lit aZ.K ([tc]:List aZ) (css:=[aZ.enc tc]) Q T nQ nM oM Dx Q dc dc Q ⟨(bx (aZ.K.one _)),T⟩ Q Q Q<|gr H λgu H=>Dv.uX (Kd:=aZ.K) (jj:=1) (ys:=([tc]:List aZ)) (λvb:OV=>[ar gt.1 211 [vI tm.bw,eq gt.2.1.1,eq gt.2.2.1,vI tm.da],own aZ.K vb.1 (tm.bA++([tc]:List aZ)),mp aZ.kv (λx:ak=>agg (ak.enc x)) gt.2.2.1 tm.dA,ar be 80 (ak.enc ((mget a0.dA tc).getD (⟨0,eE,eE,eE,eE,false,false,0,0,0,0⟩:ak))),ar bd 264 (aZ.enc tc),ar bc 80 [vI 0,vS eE,vS eE,vS eE,vS eE,vB false,vB false,vI 0,vI 0,vI 0,vI 0],ar ba 80 (ak.enc a1)]++F) Q T Q Q Q dG nQ (.inr ⟨_,nQ⟩) Dd Q dc gu Q pD (λvb=>?_)
 refine Dv.aJ han Q T Q<|fp han Q T Q l6<|sx 0 Q T Q Q (cells_one cS) Ef Q Q Q pB ?_
 refine .fin<|wd mX 7 64<|go 1<|Dv.aJ han Q T Q<|fp han Q T Q rj<|gl 3 [0,4,6]<|Dv.Fw (jj:=2) a1 Q T Q Q Q (aZ.kq tc) Q yC rH (λ_=>ee kr)<|.fin<|WP.seq<|wd mX 10 0<|go 1<|Dv.aJ han Q T Q<|fp han Q T Q l6<|gl 1 [0]<|Dv.kl Q T Q (ab 1 Q) nQ<|go 1<|Dv.aJ han Q T Q<|fp han Q T Q BT<|gl 2 [0]<|ce H ?_ ?_ <;> intro H
 ·refine wr 4 2<|Dv.lD (qs:=[vI 0,vS eE,vS eE,vS eE,vS eE,vB false,vB false,vI 0,vI 0,vI 0,vI 0]) (css:=[]) Q T fO s5 z80 Q T Q Q<|sy 5 ?_
  refine go 2<|wg (cF.shut (p:=p0_) (m:=(⟨tm.bw,tm.bA++([tc]:List aZ),mput tm.dA tc a1,tm.da⟩:cF)) (gt.1,vb,gt.2.2) han (pm 7 [0,1,2,3,4,5,6])) λ_ _=>?_
  cases H.out;exact rt i2 Q () 5 [1,2,3,4,0] 4 (.cons (aL Q fO Q ij (ab 3 Q) Q) (.cons (aQ Q) (.cons (aQ Q) .nil)))
 refine WP.skip<|wd mX 13 6144<|go 1<|Dv.aJ han Q T Q<|fp han Q T Q rj<|gl 2 [0]<|Dv.aJ han Q T Q<|fp han Q T Q l6<|gl 1 [0]<|gr H λgv H=>?_
 have hao:(0:Int).toNat<(tm.bA++([tc]:List aZ)).length:=cQ gv
 refine Dv.na Q T Q (ab 1 Q) Q nQ nM oM gv.1 gv.2<|Dv.kX (j:=((0:Int).toNat)) (f:=0) Q T Q (ab 1 Q) hao nM Q oM (Nat.le_of_ble_eq_true Q)<|Dv.Ix (⟨0,eE,eE,eE,eE,false,false,0,0,0,0⟩:ak) Q T Q (ab 2 Q) Q (aZ.kq ((tm.bA++([tc]:List aZ)).getD ((0:Int).toNat) default)) yC rH z80 (λ_=>⟨_,Q,Cs.Jo Q⟩)<|al Q T qP pD λbh=>sv 0 ?_
 refine .fin<|wr 8 128<|go 2<|Dv.aJ han Q T Q<|fp han Q T Q l6<|gl 1 [1]<|gr H λgw H=>?_
 have hap:(0:Int).toNat<(tm.bA++([tc]:List aZ)).length:=cQ gw
 refine Dv.na Q T Q (ab 2 Q) Q nQ nM oM gw.1 gw.2<|Dv.kX (j:=((0:Int).toNat)) (f:=0) Q T Q (ab 2 Q) hap nM Q oM (Nat.le_of_ble_eq_true Q)<|vg (cF.shut (p:=p0_) (m:=(⟨tm.bw,tm.bA++([tc]:List aZ),mput tm.dA tc a1,tm.da⟩:cF)) (gt.1,vb,gt.2.2) han (pm 8 [1,2,3,0,4,5,6,7])) λ_ _=>?_
 refine el H λtn haq H=>cx 6 [0,1,2,3,4,5] (cL 145) (bZ.c haq (p0_:=p0_)) nofun λ_ _=>?_
 refine .fin<|wr 8 128<|go 1<|Dv.mD cF.nn Q T Q (ab 0 Q)<|vg (cF.eF 0 Q) λgy har=>?_
 refine fp har Q T Q uz<|gl 2 [0]<|Dv.aJ har Q T Q<|fp har Q T Q uz<|sy 0 ?_
 refine .fin<|wr 4 2<|gl 1 [3]<|sy 6 ?_
 refine go 2<|wg (cF.shut (p:=p0_) (m:=(⟨tn.bw,tn.bA,tn.dA,aE (tn.da+1)⟩:cF)) (gy.1,gy.2.1,gy.2.2) har (pm 8 [0,1,2,3,4,5,6,7])) λ_ _=>?_
 cases H.out;exact rt i2 Q () 6 [1,2,3,4,5,0] 5 (.cons (aL Q fO Q ij (ab 4 Q) Q) (.cons (aQ Q) (.cons (aQ Q) .nil)))
end Go.Proofs.YtelcbdmigiacpaaGreat
