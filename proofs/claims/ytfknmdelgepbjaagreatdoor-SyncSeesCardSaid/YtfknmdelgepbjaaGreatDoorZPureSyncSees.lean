import Derived.Test.YtfknmdelgepbjaaGreatDoorZYJ
set_option linter.all false
set_option maxRecDepth 10000
namespace Go.Proofs.YtfknmdelgepbjaaGreatDoor
open Go Go.Sp
theorem Bb {α:Type} {K:Kd α} {l:List α} {m:Nat} (h:m<l.length):K.at l (m:Int)=l[m]:=by
 unfold Kd.at; rw [Int.toNat_natCast]; simp [h]
structure Sm3 (T:List iF) (P:List jC):Prop where
 t:T.length≤1000
 u:∀ x∈T,x.kT.length≤1000
 p:P.length≤1000
theorem Kv (P:List Event) (c:Event) (C:List Event):Event.K.at (P++c::C) (P.length:Int)=c:=by
 unfold Kd.at; rw [Int.toNat_natCast]; simp [List.getElem?_append_right]
theorem AD {L:List Event} (hl:L.length≤1000) {t1:(Option gW)×Int} {t2:(Option bK)×Int} {t3:bH} {t4:bM} {v w C v' w'} (h:pv v w C v' w'):∀ A,L=A++C→
  El (fun k j=>fN.l0 k L t1 t2 t3 t4 j (A.length:Int) v) (.inl ((L.length:Int),false,v'))∧El (fun k j=>gJ.l0 k L j (A.length:Int) w.fD) ((L.length:Int),false,w'.fD):=by
 induction h with
 | nil _=>
  intro A e
  rw [List.append_nil] at e
  constructor
  ·refine El.step (fun _ _=>by rw [fN.l0]) ?_
   rw [dF (by rw [e]; omega),e]; exact El.pure
  ·refine El.step (fun _ _=>by rw [gJ.l0]) ?_
   rw [dF (by rw [e]; omega),e]; exact El.pure
 | @cons v w c v1 w1 C v' w' _ a b _ ih=>
  intro A e
  have hlt:A.length<L.length:=by rw [e]; simp
  have hat:Event.K.at L (A.length:Int)=c:=by rw [e]; exact Kv _ _ _
  obtain ⟨i1,i2⟩:=ih (A++[c]) (by rw [e]; simp)
  have hw:ax ((A.length:Int)+1)=(((A++[c]).length:Nat):Int):=by rw [aJ om om,List.length_append]; rfl
  constructor
  ·refine El.step (fun _ _=>by rw [fN.l0]) ?_
   rw [hat,hw]
   exact El.ct (dT om) (El.aq ⟨om,om⟩ (El.bind a.el (El.cf rfl i1)))
  ·refine El.step (fun _ _=>by rw [gJ.l0]) ?_
   rw [hat,hw]
   exact El.ct (dT om) (El.aq ⟨om,om⟩ (El.bind b.el i2))
def src0 (v:aH) (from_:Int):Src:=⟨v,⟨⟨[]⟩,⟨8,[],0⟩⟩,⟨[],⟨[],[]⟩⟩,⟨[],⟨[],[]⟩⟩,⟨⟨⟨from_⟩,from_+1000⟩,[],[]⟩⟩
def ref0 (wv:bq) (from_:Int):dE:=⟨wv,[],⟨[],[]⟩,⟨[],[]⟩,[],from_⟩
theorem EF {L v wv} (R:pv ⟨[]⟩ ⟨[]⟩ L v wv) (hl:L.length≤18) {from_:Int} (hf:0≤from_∧from_≤1000):Ev (fun k=>fN.f k L from_) (src0 v from_,ref0 wv from_,true):=by
 have h1:oC.f 8=some (some ⟨⟨[]⟩,⟨8,[],0⟩⟩,0):=rfl
 have hw:ax (from_+1000)=from_+1000:=aJ om om
 have h2:nf.f from_ (from_+1000)=some (some ⟨⟨⟨from_⟩,from_+1000⟩,[],[]⟩,0):=by
  unfold nf.f oe.f
  rw [dF (by omega:¬ from_+1000<1),dF (by omega:¬ 1099511627776<from_+1000),dF (by omega:¬ from_<0),dF (by omega:¬ from_+1000<from_)]
  rfl
 obtain ⟨s1,s2⟩:=AD (L:=L) om (t1:=(some ⟨⟨[]⟩,⟨8,[],0⟩⟩,0)) (t2:=(some ⟨⟨⟨from_⟩,from_+1000⟩,[],[]⟩,0)) (t3:=⟨[],⟨[],[]⟩⟩) (t4:=⟨[],⟨[],[]⟩⟩) R [] rfl
 unfold fN.f
 rw [hw]
 refine Ev.bind (Ev.of h1) (Ev.bind (Ev.of h2) (Ev.bind (Ev.of rfl) (Ev.bind (Ev.of Ty.Bq) (Ev.bind (Ev.of Pr.Bq) (Ev.aq rfl (Ev.aq rfl (Ev.cf rfl (Ev.cf rfl (Ev.bind s1.diag ?_)))))))))
 simp only [fall]
 refine Ev.bind ?_ Ev.pure
 unfold gJ.f
 exact Ev.bind s2.diag Ev.pure
theorem JL {L v wv} (R:pv ⟨[]⟩ ⟨[]⟩ L v wv) {from_:Int} (hf:0≤from_∧from_≤1000):Bs v wv ⟨[],⟨[],[]⟩⟩ [] ⟨[],⟨[],[]⟩⟩ [] 0∧St v wv ⟨[],⟨[],[]⟩⟩ [] ⟨[],⟨[],[]⟩⟩ [] (src0 v from_) (ref0 wv from_) []:=
 ⟨⟨R.ok2,Ty.ri,Pr.ri⟩,⟨rfl,rfl,rfl,rfl,rfl,rfl,⟨Ea,rfl,Nat.zero_le _⟩,Nat.le_refl _,fun m hm=>(by cases hm),EB ⟨hf.1,om⟩,rfl⟩⟩
theorem FP:Ev (fun _=>od.f) true:=Ev.of kr
section
variable {v:aH} {wv:bq} {t:bH} {T:List (ai×Bool)} {p:bM} {P:List (ai×Int)} {n:Nat}
 {s:Src} {w:dE} {Z:List Cx} (B:Bs v wv t T p P n) (hn:n≤1000) (H:St v wv t T p P s w Z) (hz:Z.length≤100)
include B hn H hz
theorem HY (at_:Int):∃ (U:BA→List BA) (S:BA→Int),(∀ r,Ev (fun k=>kV.f k s r at_) (DP wv U r)∧Ev (fun k=>iS.f k w r at_) (DP wv U r)∧(DP wv U r).length≤1000)∧
  ∀ (who:BA) (since:Int),0≤since→since≤w.aP+(Z.length:Int)→
   Ev (fun k=>sync_Make.f k s who since at_) (⟨w.aP+(Z.length:Int),(Av wv who w.fM Z w.aP since).map Jp,DT wv who U Z w.aP since,DU wv who S Z w.aP since⟩,0)∧
   Ev (fun k=>bU.f k w who since at_) (⟨w.aP+(Z.length:Int),Av wv who w.fM Z w.aP since,DT wv who U Z w.aP since,DU wv who S Z w.aP since⟩,0)∧
   (Av wv who w.fM Z w.aP since).length≤1000∧Sm3 (DT wv who U Z w.aP since) (DU wv who S Z w.aP since):=by
 obtain ⟨U,S,hU,hS⟩:=ops B hn at_
 have ul:∀ r,(DP wv U r).length≤1000:=fun r=>Nat.le_trans (List.length_filter_le _ _) (hU r).1
 refine ⟨U,S,fun r=>⟨Eg B hU H r,vY B hU H hz r,ul r⟩,fun who since h0 h1=>⟨EU B hU hS H hz who h0 h1,Ed B hU hS H hz who h0 h1,?_,?_,?_,?_⟩⟩
 ·have:=H.ml; exact Nat.le_trans (List.length_filter_le _ _) om
 ·unfold DT; rw [List.length_map]; have:=(sH Z).2.1; exact Nat.le_trans (List.length_filter_le _ _) om
 ·intro x hx
  obtain ⟨r,_,rfl⟩:=List.mem_map.1 hx
  exact ul r
 ·unfold DU; rw [List.length_map]; have:=(rZ Z).2.1; exact Nat.le_trans (List.length_filter_le _ _) om
end
theorem HE {a2:List ai} (ok:∀ x∈a2,ai.ok x) {v:aH} {wv:bq}:∀ d x:Nat,10-x=d→x≤10→x≤a2.length→∀ t T p P s w (Z:List Cx),Bs v wv t T p P x→St v wv t T p P s w Z→Z.length=x→
  ∃ m b t' T' p' P' s' w' Z',El (fun k j=>aA.l4 k a2 j (x:Int) w s.cK s.bu s.aW s.aY s.gG) (.inl (m,b,w',s'.cK,s'.bu,s'.aW,s'.aY,s'.gG))∧Bs v wv t' T' p' P' 10∧St v wv t' T' p' P' s' w' Z'∧Z'.length≤10∧w'.aP=w.aP:=by
 intro d
 induction d with
 | zero=>
  intro x hd hx hl t T p P s w Z B H hz
  obtain rfl:x=10:=om
  refine ⟨((10:Nat):Int),false,t,T,p,P,s,w,Z,El.step (fun _ _=>by rw [aA.l4]) ?_,B,H,om,rfl⟩
  by_cases h:10<a2.length
  ·exact El.ct (dT om) (El.cf rfl El.pure)
  ·exact El.cf (dF om) El.pure
 | succ d ih=>
  intro x hd hx hl t T p P s w Z B H hz
  by_cases h:x<a2.length
  ·have hat:ai.K.at a2 (x:Int)=a2[x]:=Bb h
   obtain ⟨e,e1,e2,_⟩:=Hx (ok a2[x] (List.getElem_mem h))
   obtain ⟨o,t',T',p',P',b1,_,b3⟩:=Iv B om e2
   obtain ⟨s',w',c1,c2,c3,_⟩:=b3 s w Z H om
   obtain ⟨m,b,t2,T2,p2,P2,s2,w2,Z2,d1,d2,d3,d4,d5⟩:=ih (x+1) om om om t' T' p' P' s' w' _ b1 c2 (by rw [List.length_append,hz]; rfl)
   refine ⟨m,b,t2,T2,p2,P2,s2,w2,Z2,El.step (fun _ _=>by rw [aA.l4]) ?_,d2,d3,d4,d5.trans c3⟩
   rw [hat]
   refine El.ct (dT om) (El.ct (dT om) (El.aq ⟨om,om⟩ (El.bind e1.el (El.bind c1.el (El.cf rfl ?_)))))
   rw [kU om]
   exact d1
  ·refine ⟨(x:Int),false,t,T,p,P,s,w,Z,El.step (fun _ _=>by rw [aA.l4]) ?_,⟨B.ok,Ty.nv B.ty hx,Pr.nv B.pr hx⟩,H,om,rfl⟩
   exact El.cf (dF om) El.pure
theorem vV (a0:List de) (a1:List de) (a2:List ai) (a3:Int) (k0:(fun xs:List de=>xs.length≤maxLen∧∀ x∈xs,de.ok x) a0) (k1:(fun xs:List de=>xs.length≤maxLen∧∀ x∈xs,de.ok x) a1) (k2:(fun xs:List ai=>xs.length≤maxLen∧∀ x∈xs,ai.ok x) a2) (k3:(fun n=>(Lit.int .i64 n).wf=true) a3):∃ k,aA.f k a0 a1 a2 a3=some true:=by
 suffices h:Ev (fun k=>aA.f k a0 a1 a2 a3) true from h.ex
 obtain ⟨L,v,wv,m1,m2,R⟩:=Dz k0 k1
 have hst:=EF R m2 (from_:=0) ⟨om,om⟩
 obtain ⟨B0,H0⟩:=JL R (from_:=0) ⟨om,om⟩
 obtain ⟨m,b,t,T,p,P,s,w,Z,r1,B,H,hz,hfr⟩:=HE k2.2 _ 0 rfl om (Nat.zero_le _) _ _ _ _ _ _ [] B0 H0 rfl
 have hfr':w.aP=0:=hfr
 have hlen:w.fL.length=Z.length:=by rw [H.ch,List.length_map]
 obtain ⟨who,v1,_⟩:=sG (lV k3)
 obtain ⟨U,S,_,d1⟩:=HY B om H om 5
 obtain ⟨p1,_,p3,p4⟩:=d1 who 0 om om
 have hm:∀ x∈(Av wv who w.fM Z w.aP 0).map Jp,Hc wv who x.dI=true:=fun x hx=>by
  obtain ⟨y,y1,rfl⟩:=List.mem_map.1 hx
  have:=(List.mem_filter.1 y1).2
  rw [Bool.and_eq_true] at this
  exact this.2
 have ht:∀ x∈DT wv who U Z w.aP 0,jb wv who x.aa=true∧∀ u∈x.kT,jb wv u x.aa=true:=fun x hx=>by
  obtain ⟨y,y1,rfl⟩:=List.mem_map.1 hx
  have:=(List.mem_filter.1 y1).2
  rw [Bool.and_eq_true] at this
  exact ⟨this.2,fun u hu=>(List.mem_filter.1 hu).2⟩
 have hp:∀ x∈DU wv who S Z w.aP 0,fr wv who x.ak=true:=fun x hx=>by
  obtain ⟨y,y1,rfl⟩:=List.mem_map.1 hx
  have:=(List.mem_filter.1 y1).2
  rw [Bool.and_eq_true] at this
  exact this.2
 have l1:((Av wv who w.fM Z w.aP 0).map Jp).length≤1000:=by rw [List.length_map]; exact p3
 generalize (Av wv who w.fM Z w.aP 0).map Jp=MM at p1 hm l1
 generalize DT wv who U Z w.aP 0=TT at p1 p4 ht
 generalize DU wv who S Z w.aP 0=PP at p1 p4 hp
 have j2:∀ u r,Ev (fun k=>du.f k w.fV r u) (jb wv u r):=fun u r=>by rw [H.wv]; exact tE B u r
 have f2:∀ u,Ev (fun k=>dt.f k w.fV who u) (fr wv who u):=fun u=>by rw [H.wv]; exact sR B.ok.rel B.ok.iL B.ok.len who u
 have loop3:∀ n x:Nat,MM.length-x=n→x≤MM.length→El (fun k j=>aA.l3 k (m,b,w,s.cK,s.bu,s.aW,s.aY,s.gG) who (⟨w.aP+(Z.length:Int),MM,TT,PP⟩,0) j (x:Int)) (.inl ((MM.length:Int),false)):=by
  intro n
  induction n with
  | zero=>
   intro x hd hx
   obtain rfl:x=MM.length:=om
   refine El.step (fun _ _=>by rw [aA.l3]) ?_
   dsimp only
   rw [dF om]; exact El.pure
  | succ n ih=>
   intro x hd hx
   have hx2:x<MM.length:=om
   have i:=ih (x+1) om om
   have hv:=hm _ (List.getElem_mem hx2)
   unfold Hc at hv
   rw [Bool.and_eq_true] at hv
   have j:=j2 who (MM[x]).dI.aa
   rw [hv.1] at j
   refine El.step (fun _ _=>by rw [aA.l3]) ?_
   dsimp only
   rw [Bb hx2,kU om]
   refine El.ct (dT om) (El.aq ⟨om,om⟩ (El.bind j.el (El.cf rfl ?_)))
   have hv2:=hv.2
   cases hpr:(MM[x]).dI.au with
   | false=>exact El.cf rfl i
   | true=>
    rw [hpr] at hv2
    refine El.ct rfl (El.cf ?_ i)
    rw [show decide ((MM[x]).dI.ak=who)=true by simpa using hv2]; rfl
 have loop1:∀ n x:Nat,TT.length-x=n→x≤TT.length→El (fun k j=>aA.l1 k (m,b,w,s.cK,s.bu,s.aW,s.aY,s.gG) who (⟨w.aP+(Z.length:Int),MM,TT,PP⟩,0) j (x:Int)) (.inl ((TT.length:Int),false)):=by
  intro n
  induction n with
  | zero=>
   intro x hd hx
   obtain rfl:x=TT.length:=om
   refine El.step (fun _ _=>by rw [aA.l1]) ?_
   dsimp only
   rw [dF om]; exact El.pure
  | succ n ih=>
   intro x hd hx
   have hx2:x<TT.length:=by have:=p4.t; omega
   have htl:=p4.t
   have i:=ih (x+1) om om
   obtain ⟨g1,g2⟩:=ht _ (List.getElem_mem hx2)
   have j:=j2 who (TT[x]).aa
   rw [g1] at j
   have hul:=p4.u _ (List.getElem_mem hx2)
   have inner:∀ n y:Nat,(TT[x]).kT.length-y=n→y≤(TT[x]).kT.length→El (fun k j=>aA.l2 k (m,b,w,s.cK,s.bu,s.aW,s.aY,s.gG) (⟨w.aP+(Z.length:Int),MM,TT,PP⟩,0) (x:Int) true j (y:Int)) (.inl (((TT[x]).kT.length:Int),false,false)):=by
    intro n
    induction n with
    | zero=>
     intro y hd hy
     obtain rfl:y=(TT[x]).kT.length:=om
     refine El.step (fun _ _=>by rw [aA.l2]) ?_
     dsimp only
     rw [Bb hx2,dF om]
     exact El.aq ⟨om,om⟩ El.pure
    | succ n ih=>
     intro y hd hy
     have hy2:y<(TT[x]).kT.length:=om
     have i:=ih (y+1) om om
     have j:=j2 ((TT[x]).kT[y]) (TT[x]).aa
     rw [g2 _ (List.getElem_mem hy2)] at j
     refine El.step (fun _ _=>by rw [aA.l2]) ?_
     dsimp only
     rw [Bb hx2,Bb hy2,kU om]
     exact El.aq ⟨om,om⟩ (El.ct (dT om) (El.aq ⟨om,om⟩ (El.aq ⟨om,om⟩ (El.aq ⟨om,om⟩ (El.bind j.el (El.cf rfl i))))))
   refine El.step (fun _ _=>by rw [aA.l1]) ?_
   dsimp only
   rw [Bb hx2,kU om]
   refine El.ct (dT om) (El.bind (Ev.aq ⟨om,om⟩ (Ev.bind j (Ev.cf rfl (inner _ 0 rfl om).diag))).el ?_)
   simp only [fall]
   exact i
 have loop0:∀ n x:Nat,PP.length-x=n→x≤PP.length→El (fun k j=>aA.l0 k (m,b,w,s.cK,s.bu,s.aW,s.aY,s.gG) who (⟨w.aP+(Z.length:Int),MM,TT,PP⟩,0) j (x:Int)) (.inl ((PP.length:Int),false)):=by
  intro n
  induction n with
  | zero=>
   intro x hd hx
   obtain rfl:x=PP.length:=om
   refine El.step (fun _ _=>by rw [aA.l0]) ?_
   dsimp only
   rw [dF om]; exact El.pure
  | succ n ih=>
   intro x hd hx
   have hx2:x<PP.length:=om
   have hpl:=p4.p
   have i:=ih (x+1) om om
   have j:=f2 (PP[x]).ak
   rw [hp _ (List.getElem_mem hx2)] at j
   refine El.step (fun _ _=>by rw [aA.l0]) ?_
   dsimp only
   rw [Bb hx2,kU om]
   exact El.ct (dT om) (El.aq ⟨om,om⟩ (El.bind j.el (El.cf rfl i)))
 unfold aA.f
 refine Ev.bind m1 (Ev.bind hst (Ev.cf rfl (Ev.bind r1.diag ?_)))
 simp only [fall]
 refine Ev.bind (Ev.of v1) (Ev.bind p1 (Ev.bind (loop3 _ 0 rfl om).diag ?_))
 simp only [fall]
 refine Ev.bind (loop1 _ 0 rfl om).diag ?_
 simp only [fall]
 refine Ev.bind (loop0 _ 0 rfl om).diag ?_
 simp only [fall]
 refine Ev.ct rfl (Ev.ct ?_ (Ev.bind FP Ev.pure))
 rw [hfr',hlen]; simp
end Go.Proofs.YtfknmdelgepbjaaGreatDoor
