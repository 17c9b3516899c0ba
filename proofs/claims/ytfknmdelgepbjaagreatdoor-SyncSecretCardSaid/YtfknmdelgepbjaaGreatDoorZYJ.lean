import Derived.Test.YtfknmdelgepbjaaGreatDoorZYD
import Derived.Test.YtfknmdelgepbjaaGreatDoorZPF
import Derived.Test.YtfknmdelgepbjaaGreatDoorZPrPG
import Derived.Test.YtfknmdelgepbjaaGreatDoorZPrPM
set_option linter.all false
set_option maxRecDepth 10000
namespace Go.Proofs.YtfknmdelgepbjaaGreatDoor
open Go Go.Sp
def AP (T:List (ak×Bool)):kE:=⟨T.map (·.1),T.map (·.2)⟩
def Bn (P:List (ak×Int)):lD:=⟨P.map (·.1),P.map (·.2)⟩
structure Bs (v:aL) (wv:bF) (t:bZ) (T:List (ak×Bool)) (p:cI) (P:List (ak×Int)) (n:Nat):Prop where
 ok:IH v wv
 ty:Ty.Rel t T n
 pr:Pr.Rel p P n
structure St (v:aL) (wv:bF) (t:bZ) (T:List (ak×Bool)) (p:cI) (P:List (ak×Int)) (s:Src) (w:dt) (Z:List Cx):Prop where
 sv:s.cO=v
 st:s.av=t
 sp:s.aU=p
 wv:w.fV=wv
 wt:w.fT=AP T
 wp:w.fP=Bn P
 AJ:KK s.ay w.fM
 ml:w.fM.length≤Z.length
 mz:∀ m∈w.fM,Cx.m m.fK∈Z
 lg:DS s.gH Z w.bQ
 ch:w.fL=Z.map Cx.chg
def cx (e:ak):Cx:=if e.aG=1 then .m (AI e) else if e.aG=2 then .r e.aa else .u e.ai
theorem cx_ok {e:ak} (h:GE e):(cx e).ok:=by
 unfold cx
 split
 ·rename_i k; exact kx_of h k
 ·split
  ·rename_i k; exact h.room om
  ·exact h.user
def qQ (M:List MK) (e:ak) (o:Option Pos):List MK:=if e.aG=1 then stepO M e o else M
theorem C4 {M:List MK} {e:ak} {o:Option Pos}:(qQ M e o).length≤M.length+1:=by
 unfold qQ
 split
 ·cases o with
  | none=>exact Nat.le_succ _
  | some p=>exact Ik
 ·omega
theorem G8 {v:aL} {wv:bF} {t:bZ} {T:List (ak×Bool)} {p:cI} {P:List (ak×Int)} {n:Nat} (B:Bs v wv t T p P n) (hn:n≤100) {e:ak} (he:GE e):
  ∃ o t' T' p' P',Bs v wv t' T' p' P' (n+1)∧(e.aG=1→t'=t∧T'=T∧p'=p∧P'=P)∧
  ∀ s w Z,St v wv t T p P s w Z→Z.length≤100→∃ s' w',Ev (fun k=>kJ.f k s w e) (w',true,s')∧St v wv t' T' p' P' s' w' (Z++[cx e])∧w'.bQ=w.bQ∧w'.fM=qQ w.fM e o:=by
 have hc:=cx_ok he
 have tail:∀ {s:Src} {w:dt} {Z:List Cx},St v wv t T p P s w Z→Z.length≤100→w.fL.length≤100:=fun h hz=>by rw [h.ch,List.length_map]; exact hz
 rcases he.kind with hk | hk | hk
 ·obtain ⟨o,ho⟩:=BM B.ok he hk
  have hcx:cx e = .m (AI e):=by unfold cx; rw [if_pos hk]
  refine ⟨o,t,T,p,P,⟨B.ok,Ty.nB B.ty (Nat.le_succ _),Pr.nB B.pr (Nat.le_succ _)⟩,fun _=>⟨rfl,rfl,rfl,rfl⟩,fun s w Z h hz=>?_⟩
  have hml:=h.ml
  obtain ⟨Q,b,c,m',h1,h2,h3⟩:=ho s.ay w.fM h.AJ om
  obtain ⟨d',t1,t2⟩:=wq h.lg om hc
  have hlen:=tail h hz
  rw [hcx] at t1 t2
  have hx:(Cx.m (AI e)).ok:=by rw [← hcx]; exact hc
  have k1:=(A0 hx).1
  have k2:=Cx.BD hx
  refine ⟨⟨v,m',t,p,d'⟩,⟨w.fV,stepO w.fM e o,w.fT,w.fP,w.fL++[(Cx.m (AI e)).chg],w.bQ⟩,?_,⟨rfl,rfl,rfl,h.wv,h.wt,h.wp,h3,?_,?_,by rw [hcx]; exact t2,by rw [hcx]; show w.fL++_=_; rw [h.ch,List.map_append]; rfl⟩,rfl,by unfold qQ; rw [if_pos hk]⟩
  ·unfold kJ.f
   rw [h.sv,h.wv]
   refine Ev.bind (Ev.ct (by rw [hk]; rfl) (Ev.bind h1 (Ev.bind h2 (Ev.cf sM (Ev.cf sM (Ev.bind (Ev.of (show pA.f e=some (AI e) from rfl)) (Ev.bind (Ev.of k1) Ev.pure))))))) ?_
   simp only [fall,List.nil_append,List.length_nil,Nat.zero_add,List.length_singleton]
   refine Ev.an ⟨om,om⟩ (Ev.an ⟨om,om⟩ (Ev.bind t1 (Ev.ct rfl (Ev.bind (Ev.of k2) (Ev.of ?_)))))
   rw [h.st,h.sp]
   show some (_,decide ((Cx.m (AI e)).key=(Cx.m (AI e)).key),_)=_
   rw [dT rfl]; rfl
  ·show (stepO w.fM e o).length≤_
   have:=C4 (M:=w.fM) (e:=e) (o:=o)
   unfold qQ at this; rw [if_pos hk] at this
   rw [List.length_append,List.length_singleton]; omega
  ·intro m hm
   rw [hcx]
   have hm:m∈stepO w.fM e o:=hm
   cases o with
   | none=>exact List.mem_append_left _ (h.mz m hm)
   | some q=>
    rcases Ap m hm with k | k
    ·rw [k]; exact List.mem_append_right _ List.mem_cons_self
    ·exact List.mem_append_left _ (h.mz m k)
 ·obtain ⟨T',b,t',h1,h2,h3⟩:=Ty.um B.ty om ⟨he,hk⟩
  have hcx:cx e = .r e.aa:=by unfold cx; rw [if_neg om,if_pos hk]
  refine ⟨none,t',T',p,P,⟨B.ok,h3,Pr.nB B.pr (Nat.le_succ _)⟩,fun k=>absurd k om,fun s w Z h hz=>?_⟩
  have hml:=h.ml
  obtain ⟨d',t1,t2⟩:=wq h.lg om hc
  have hlen:=tail h hz
  rw [hcx] at t1 t2
  have hx:(Cx.r e.aa).ok:=by rw [← hcx]; exact hc
  have k1:=(Az _ hx).1
  have k2:=Cx.BD hx
  refine ⟨⟨v,s.ay,t',p,d'⟩,⟨w.fV,w.fM,AP T',w.fP,w.fL++[(Cx.r e.aa).chg],w.bQ⟩,?_,⟨rfl,rfl,rfl,h.wv,rfl,h.wp,h.AJ,?_,fun m hm=>List.mem_append_left _ (h.mz m hm),by rw [hcx]; exact t2,by rw [hcx]; show w.fL++_=_; rw [h.ch,List.map_append]; rfl⟩,rfl,by unfold qQ; rw [if_neg om]⟩
  ·unfold kJ.f
   rw [h.st,h.wt]
   refine Ev.bind (Ev.cf (by rw [hk]; rfl) (Ev.ct (by rw [hk]; rfl) (Ev.bind h1 (Ev.bind h2 (Ev.cf sM (Ev.bind (Ev.of k1) Ev.pure)))))) ?_
   simp only [fall,List.nil_append,List.length_nil,Nat.zero_add,List.length_singleton]
   refine Ev.an ⟨om,om⟩ (Ev.an ⟨om,om⟩ (Ev.bind t1 (Ev.ct rfl (Ev.bind (Ev.of k2) (Ev.of ?_)))))
   rw [h.sv,h.sp]
   show some (_,decide ((Cx.r e.aa).key=(Cx.r e.aa).key),_)=_
   rw [dT rfl]; rfl
  ·show w.fM.length≤_
   rw [List.length_append,List.length_singleton]; omega
 ·obtain ⟨P',b,p',h1,h2,h3⟩:=Pr.um B.pr om ⟨he,hk⟩
  have hcx:cx e = .u e.ai:=by unfold cx; rw [if_neg om,if_neg om]
  refine ⟨none,t,T,p',P',⟨B.ok,Ty.nB B.ty (Nat.le_succ _),h3⟩,fun k=>absurd k om,fun s w Z h hz=>?_⟩
  have hml:=h.ml
  obtain ⟨d',t1,t2⟩:=wq h.lg om hc
  have hlen:=tail h hz
  rw [hcx] at t1 t2
  have hx:(Cx.u e.ai).ok:=by rw [← hcx]; exact hc
  have k1:=(zZ _ hx).1
  have k2:=Cx.BD hx
  refine ⟨⟨v,s.ay,t,p',d'⟩,⟨w.fV,w.fM,w.fT,Bn P',w.fL++[(Cx.u e.ai).chg],w.bQ⟩,?_,⟨rfl,rfl,rfl,h.wv,h.wt,rfl,h.AJ,?_,fun m hm=>List.mem_append_left _ (h.mz m hm),by rw [hcx]; exact t2,by rw [hcx]; show w.fL++_=_; rw [h.ch,List.map_append]; rfl⟩,rfl,by unfold qQ; rw [if_neg om]⟩
  ·unfold kJ.f
   rw [h.sp,h.wp]
   refine Ev.bind (Ev.cf (by rw [hk]; rfl) (Ev.cf (by rw [hk]; rfl) (Ev.bind h1 (Ev.bind h2 (Ev.cf sM (Ev.bind (Ev.of k1) Ev.pure)))))) ?_
   simp only [fall,List.nil_append,List.length_nil,Nat.zero_add,List.length_singleton]
   refine Ev.an ⟨om,om⟩ (Ev.an ⟨om,om⟩ (Ev.bind t1 (Ev.ct rfl (Ev.bind (Ev.of k2) (Ev.of ?_)))))
   rw [h.sv,h.st]
   show some (_,decide ((Cx.u e.ai).key=(Cx.u e.ai).key),_)=_
   rw [dT rfl]; rfl
  ·show w.fM.length≤_
   rw [List.length_append,List.length_singleton]; omega
def fr (wv:bF) (who u:BA):Bool:=(Ju wv who).any (jb wv u)
def CC (wv:bF) (who:BA) (k:bx):Bool:=jb wv who k.aa&&(!k.ao||decide (k.ai=who))
def uAt (wv:bF) (U:BA→List BA) (r:BA):List BA:=(U r).filter fun u=>jb wv u r
def fA (wv:bF) (who:BA) (M:List MK):Cx→Option eQ
 | .m k=>if ((gM M k).isSome&&CC wv who k)=true then some ⟨k,(gM M k).getD ⟨0,⟨#[]⟩⟩⟩ else none
 | _=>none
def fB (wv:bF) (who:BA) (U:BA→List BA):Cx→Option eA
 | .r r=>if jb wv who r=true then some ⟨r,uAt wv U r⟩ else none
 | _=>none
def fC (wv:bF) (who:BA) (S:BA→Int):Cx→Option eR
 | .u u=>if fr wv who u=true then some ⟨u,S u⟩ else none
 | _=>none
theorem yD {α:Type} {cf:α→α→Int} (hC:AK cf) {A ys:List α} (hn:A.Nodup) (hm:∀ x,x∈A↔x∈ys) (hs:ys.Pairwise fun x y=>ltOf cf x y=true):(A.Pairwise fun x y=>ltOf cf x y=true∨ltOf cf y x=true)∧ll cf A=ys:=by
 have hO:=hC.swo
 have hy:ys.Nodup:=hs.imp fun {a b} h e=>by subst e; rw [hO.irrefl] at h; cases h
 have hp:ys.Perm A:=(List.perm_ext_iff_of_nodup hy hn).2 fun x=>(hm x).symm
 have hd:A.Pairwise fun x y=>ltOf cf x y=true∨ltOf cf y x=true:=(hp.pairwise_iff Or.symm).1 (hs.imp .inl)
 refine ⟨hd,(zD hO hd hp (hs.imp fun {a b} h=>?_)).symm⟩
 cases e:ltOf cf b a with
 | false=>rfl
 | true=>have:=hO.trans _ _ _ h e; rw [hO.irrefl] at this; cases this
theorem tZ {α:Type} {f:Cx→Option α} (hf:∀ a b x,f a=some x→f b=some x→a=b) {Y:List Cx} (h:Y.Nodup):(Y.filterMap f).Nodup:=by
 refine List.pairwise_filterMap.2 (h.imp fun {a b} hab x hx y hy e=>?_)
 subst e; exact hab (hf a b x hx hy)
section
variable {v:aL} {wv:bF} {t:bZ} {T:List (ak×Bool)} {p:cI} {P:List (ak×Int)} {n:Nat}
theorem ops (B:Bs v wv t T p P n) (hn:n≤1000) (at_:Int):∃ (U:BA→List BA) (S:BA→Int),
  (∀ r,(U r).length≤1000∧Ev (fun k=>aR.f k t r at_) (U r)∧Ev (fun k=>eL.f k (AP T) r at_) (U r))∧
  ∀ u,Ev (fun k=>b7.f k p u at_) (S u)∧Ev (fun k=>en.f k (Bn P) u at_) (S u):=by
 have hT:(T.map (·.1)).length≤1000:=by rw [List.length_map]; have:=B.ty.ln; omega
 have hP:(P.map (·.1)).length≤1000:=by rw [List.length_map]; have:=B.pr.ln; omega
 have h1:∀ r:BA,∃ vs:List BA,vs.length≤1000∧Ev (fun k=>aR.f k t r at_) vs∧Ev (fun k=>eL.f k (AP T) r at_) vs:=fun r=>by
  obtain ⟨vs,a1,a2,a3⟩:=Ty.BB (T:=T.map (·.2)) (h:=t.gL) om B.ty.tD r at_
  have e:t=⟨T.map (·.1),t.gL⟩:=by rw [← B.ty.fl]
  rw [← e] at a2
  exact ⟨vs,om,a2,a3⟩
 have h2:∀ u:BA,∃ b:Int,Ev (fun k=>b7.f k p u at_) b∧Ev (fun k=>en.f k (Bn P) u at_) b:=fun u=>by
  have ok:∀ x∈P.map (·.1),Pr.lV x:=Pr.Ka B.pr
  obtain ⟨b,b1,b2⟩:=Pr.DI (h:=p.eY) om B.pr.tD ok u at_
  obtain ⟨b',c1,c2⟩:=Pr.yo (T:=P.map (·.2)) om ok u at_
  rw [Pr.Gy.uniq B.pr.tD c1 b1] at c2
  have e:p=⟨P.map (·.1),p.eY⟩:=by rw [← B.pr.fl]
  rw [← e] at b2
  exact ⟨b,b2,c2⟩
 obtain ⟨U,hU⟩:=Classical.axiomOfChoice h1
 obtain ⟨S,hS⟩:=Classical.axiomOfChoice h2
 exact ⟨U,S,hU,hS⟩
variable {U:BA→List BA} {S:BA→Int} {at_:Int} {s:Src} {w:dt} {Z:List Cx} (B:Bs v wv t T p P n)
 (hU:∀ r,(U r).length≤1000∧Ev (fun k=>aR.f k t r at_) (U r)∧Ev (fun k=>eL.f k (AP T) r at_) (U r))
 (hS:∀ u,Ev (fun k=>b7.f k p u at_) (S u)∧Ev (fun k=>en.f k (Bn P) u at_) (S u))
 (H:St v wv t T p P s w Z)
theorem ym (B:Bs v wv t T p P n) (u r:BA):Ev (fun k=>bN.f k v r u) (jb wv u r):=jv B.ok.rel B.ok.jC B.ok.len u r
include B hU H
theorem Kf (r:BA):Ev (fun k=>lW.f k s r at_) (uAt wv U r):=by
 obtain ⟨u1,u2,_⟩:=hU r
 unfold lW.f
 rw [H.st]
 have pr:∀ x,Ev (fun k=>iB.f k x s r) (!jb wv x r):=fun x=>by
  unfold iB.f
  rw [H.sv]
  exact Ev.bind (ym B x r) Ev.pure
 have h:=uo (p:=fun k x=>iB.f k x s r) (b:=fun x=>!jb wv x r) pr (xs:=U r) om
 have e:(U r).filter (fun x=>!!jb wv x r)=uAt wv U r:=by unfold uAt; congr 1; funext x; rw [Bool.not_not]
 rw [e] at h
 exact Ev.bind u2 (Ev.bind h Ev.pure)
omit hU
theorem mark1 (who:BA) (k:bx):Ev (fun j=>gR.f j s k who) (⟨k,(gM w.fM k).getD ⟨0,⟨#[]⟩⟩⟩,(gM w.fM k).isSome&&CC wv who k):=by
 unfold gR.f fU.f
 rw [H.AJ.rel.get k,H.sv]
 refine Ev.bind (Ev.of rfl) ?_
 dsimp only
 cases hg:(gM w.fM k).isSome with
 | false=>exact Ev.cf rfl (Ev.of (by simp [hg]))
 | true=>
  refine Ev.ct rfl (Ev.bind (ym B who k.aa) ?_)
  unfold CC
  cases hj:jb wv who k.aa with
  | false=>exact Ev.cf rfl (Ev.of (by simp [hg]))
  | true=>
   refine Ev.ct rfl ?_
   cases hp:k.ao with
   | false=>exact Ev.ct rfl (Ev.of (by simp [hg]))
   | true=>exact Ev.cf rfl (Ev.of (by simp [hg]))
include hU hS
theorem xM (who:BA):∀ (C A:List Cx),(A++C).length≤1000→(∀ c∈A++C,c.ok)→
  ∃ q,El (fun k j=>sync_Make.l0 k s who at_ ((A++C).map Cx.key) j (A.length:Int) (A.filterMap (fA wv who w.fM)) (A.filterMap (fB wv who U)) (A.filterMap (fC wv who S))) q∧q.2.2.2.2=((A++C).filterMap (fA wv who w.fM),(A++C).filterMap (fB wv who U),(A++C).filterMap (fC wv who S))
 | [],A,hl,hz=>by
  refine ⟨((((A++[]).map Cx.key).length:Int),(A.length:Int),false,(A++[]).map Cx.key,A.filterMap (fA wv who w.fM),A.filterMap (fB wv who U),A.filterMap (fC wv who S)),El.step (fun _ _=>by rw [sync_Make.l0]) ?_,?_⟩
  ·rw [dF (by rw [List.length_map,List.append_nil]; omega)]
   exact El.pure
  ·rw [List.append_nil]
 | c::C,A,hl,hz=>by
  have e:A++c::C=(A++[c])++C:=sM
  have hc:c.ok:=hz c sM
  obtain ⟨q,h1,h2⟩:=xM who C (A++[c]) (by rw [← e]; exact hl) (by rw [← e]; exact hz)
  rw [← e] at h1 h2
  refine ⟨q,El.step (fun _ _=>by rw [sync_Make.l0]) ?_,h2⟩
  have hlen:((A++c::C).map Cx.key).length=A.length+(C.length+1):=sM
  have hl':A.length+(C.length+1)≤1000:=by rw [← hlen,List.length_map]; exact hl
  have hat:((A++c::C).map Cx.key).getD (A.length:Int).toNat default=c.key:=by
   rw [Int.toNat_natCast,gD,List.getElem?_map,List.getElem?_append_right (Nat.le_refl _)]; simp
  have hw:aw ((A.length:Int)+1)=(((A++[c]).length:Nat):Int):=by rw [aP om om,List.length_append]; rfl
  have la:(A.filterMap (fA wv who w.fM)).length≤A.length:=List.length_filterMap_le _ _
  have lb:(A.filterMap (fB wv who U)).length≤A.length:=List.length_filterMap_le _ _
  have lc:(A.filterMap (fC wv who S)).length≤A.length:=List.length_filterMap_le _ _
  have ap:∀ {β:Type} (f:Cx→Option β),(A++[c]).filterMap f=A.filterMap f++(f c).toList:=fun f=>by
   rw [List.filterMap_append]; cases h:f c <;> simp [h]
  refine El.ct (dT (by rw [hlen]; omega)) (El.an ⟨om,by rw [hlen]; omega⟩ ?_)
  rw [hat,hw]
  rw [ap,ap,ap] at h1
  cases c with
  | m k=>
   have m1:=mark1 B H who k
   simp only [fB,fC,Option.toList_none,List.append_nil] at h1
   refine El.bind (Cx.of hc).el ?_
   cases hv:(gM w.fM k).isSome&&CC wv who k with
   | true=>
    rw [hv] at m1
    rw [fA,if_pos hv] at h1
    refine El.bind (Ev.ct rfl (Ev.bind m1 (Ev.ct rfl (Ev.an ?_ Ev.pure)))).el (El.cf rfl h1)
    rw [List.length_singleton]; omega
   | false=>
    rw [hv] at m1
    rw [fA,if_neg (by rw [hv]; decide)] at h1
    simp only [Option.toList_none,List.append_nil] at h1
    refine El.bind (a:=(A.filterMap (fA wv who w.fM),A.filterMap (fB wv who U))) ?_ (El.cf rfl h1)
    refine Ev.el (Ev.ct rfl ?_)
    refine Ev.bind m1 ?_
    exact Ev.cf rfl Ev.pure
  | r r=>
   have j1:=ym B who r
   rw [← H.sv] at j1
   simp only [fA,fC,Option.toList_none,List.append_nil] at h1
   refine El.bind (Cx.of hc).el ?_
   cases hv:jb wv who r with
   | true=>
    rw [hv] at j1
    rw [fB,if_pos hv] at h1
    refine El.bind (Ev.cf rfl (Ev.ct rfl (Ev.bind j1 (Ev.ct rfl (Ev.bind (Kf B hU H r) (Ev.an ?_ Ev.pure)))))).el (El.cf rfl h1)
    rw [List.length_singleton]; omega
   | false=>
    rw [hv] at j1
    rw [fB,if_neg (by rw [hv]; decide)] at h1
    simp only [Option.toList_none,List.append_nil] at h1
    refine El.bind (a:=(A.filterMap (fA wv who w.fM),A.filterMap (fB wv who U))) ?_ (El.cf rfl h1)
    refine Ev.el (Ev.cf rfl (Ev.ct rfl ?_))
    refine Ev.bind j1 ?_
    exact Ev.cf rfl Ev.pure
  | u u=>
   have j1:Ev (fun k=>eX.f k s.cO who u) (fr wv who u):=by rw [H.sv]; exact zi B.ok.rel B.ok.jC B.ok.len who u
   have st:=(hS u).1
   rw [← H.sp] at st
   simp only [fA,fB,Option.toList_none,List.append_nil] at h1
   refine El.bind (Cx.of hc).el ?_
   refine El.bind (a:=(A.filterMap (fA wv who w.fM),A.filterMap (fB wv who U))) (Ev.cf rfl (Ev.cf rfl Ev.pure)).el (El.ct rfl ?_)
   cases hv:fr wv who u with
   | true=>
    rw [hv] at j1
    rw [fC,if_pos hv] at h1
    refine El.bind j1.el (El.ct rfl (El.bind st.el (El.an ?_ h1)))
    rw [List.length_singleton]; omega
   | false=>
    rw [hv] at j1
    rw [fC,if_neg (by rw [hv]; decide)] at h1
    simp only [Option.toList_none,List.append_nil] at h1
    exact El.bind j1.el (El.cf rfl h1)
end
def A5 (Z:List Cx) (from_ since:Int) (c:Cx):Bool:=decide (c∈Z∧since<from_+(kX Z c:Int))
def stR (l:List BA):Cx→List BA
 | .r s=>putG s false l
 | _=>l
def stU (l:List BA):Cx→List BA
 | .u s=>putG s false l
 | _=>l
def RR (Z:List Cx):List BA:=Z.foldl stR []
def UU (Z:List Cx):List BA:=Z.foldl stU []
theorem yk (Z:List Cx) (c:Cx):RR (Z++[c])=stR (RR Z) c:=by unfold RR; rw [List.foldl_append]; rfl
theorem yE (Z:List Cx) (c:Cx):UU (Z++[c])=stU (UU Z) c:=by unfold UU; rw [List.foldl_append]; rfl
theorem uU (Z:List Cx):sF (RR Z)∧(RR Z).length≤Z.length∧∀ r,r∈RR Z↔Cx.r r∈Z:=by
 induction Z using Hl with
 | h0=>exact ⟨List.Pairwise.nil,Nat.le_refl _,fun r=>by simp [RR]⟩
 | h1 Y c ih=>
  obtain ⟨i1,i2,i3⟩:=ih
  rw [yk,List.length_append,List.length_singleton]
  cases c with
  | r s=>
   refine ⟨rn i1,Nat.le_trans (u6 s _ _) om,fun r=>?_⟩
   show r∈putG s false _↔_
   rw [rF,i3,List.mem_append,List.mem_singleton,Cx.r.injEq]
   by_cases e:r=s <;> simp [e]
  | m k=>exact ⟨i1,Nat.le_succ_of_le i2,fun r=>by rw [List.mem_append]; simpa [stR] using i3 r⟩
  | u k=>exact ⟨i1,Nat.le_succ_of_le i2,fun r=>by rw [List.mem_append]; simpa [stR] using i3 r⟩
theorem uP (Z:List Cx):sF (UU Z)∧(UU Z).length≤Z.length∧∀ r,r∈UU Z↔Cx.u r∈Z:=by
 induction Z using Hl with
 | h0=>exact ⟨List.Pairwise.nil,Nat.le_refl _,fun r=>by simp [UU]⟩
 | h1 Y c ih=>
  obtain ⟨i1,i2,i3⟩:=ih
  rw [yE,List.length_append,List.length_singleton]
  cases c with
  | u s=>
   refine ⟨rn i1,Nat.le_trans (u6 s _ _) om,fun r=>?_⟩
   show r∈putG s false _↔_
   rw [rF,i3,List.mem_append,List.mem_singleton,Cx.u.injEq]
   by_cases e:r=s <;> simp [e]
  | m k=>exact ⟨i1,Nat.le_succ_of_le i2,fun r=>by rw [List.mem_append]; simpa [stU] using i3 r⟩
  | r k=>exact ⟨i1,Nat.le_succ_of_le i2,fun r=>by rw [List.mem_append]; simpa [stU] using i3 r⟩
def mmT (wv:bF) (who:BA) (M:List MK) (Z:List Cx) (from_ since:Int):List MK:=M.filter fun m=>A5 Z from_ since (.m m.fK)&&CC wv who m.fK
def Gw (wv:bF) (who:BA) (U:BA→List BA) (Z:List Cx) (from_ since:Int):List eA:=((RR Z).filter fun r=>A5 Z from_ since (.r r)&&jb wv who r).map fun r=>⟨r,uAt wv U r⟩
def Gz (wv:bF) (who:BA) (S:BA→Int) (Z:List Cx) (from_ since:Int):List eR:=((UU Z).filter fun u=>A5 Z from_ since (.u u)&&fr wv who u).map fun u=>⟨u,S u⟩
def Gx (m:MK):eQ:=⟨m.fK,m.fY⟩
theorem EM {M:List MK} (h:tH M) {k:bx} {p:Pos}:gM M k=some p↔(⟨k,p⟩:MK)∈M:=by
 induction M with
 | nil=>simp [gM]
 | cons m M ih=>
  have hc:=List.pairwise_cons.1 h
  rw [gM,List.mem_cons]
  by_cases e:m.fK=k
  ·rw [if_pos e]
   constructor
   ·intro h1
    cases m with
    | mk a b=>simp only [Option.some.injEq] at h1 e; left; rw [h1,e]
   ·rintro (h1 | h1)
    ·rw [← h1]
    ·have:=hc.1 _ h1; rw [e,qE] at this; cases this
  ·rw [if_neg e,ih hc.2]
   constructor
   ·exact .inr
   ·rintro (h1 | h1)
    ·rw [← h1] at e; exact absurd rfl e
    ·exact h1
section
variable {v:aL} {wv:bF} {t:bZ} {T:List (ak×Bool)} {p:cI} {P:List (ak×Int)} {n:Nat}
 {U:BA→List BA} {S:BA→Int} {at_:Int} {s:Src} {w:dt} {Z:List Cx} (B:Bs v wv t T p P n)
 (hU:∀ r,(U r).length≤1000∧Ev (fun k=>aR.f k t r at_) (U r)∧Ev (fun k=>eL.f k (AP T) r at_) (U r))
 (hS:∀ u,Ev (fun k=>b7.f k p u at_) (S u)∧Ev (fun k=>en.f k (Bn P) u at_) (S u))
 (H:St v wv t T p P s w Z) (hz:Z.length≤100)
include B H hz
include hU
omit hU
include hS
end
section
variable {v:aL} {wv:bF} {t:bZ} {T:List (ak×Bool)} {p:cI} {P:List (ak×Int)} {n:Nat}
 {U:BA→List BA} {S:BA→Int} {at_:Int} {s:Src} {w:dt} {Z:List Cx} (B:Bs v wv t T p P n)
 (hU:∀ r,(U r).length≤1000∧Ev (fun k=>aR.f k t r at_) (U r)∧Ev (fun k=>eL.f k (AP T) r at_) (U r))
 (hS:∀ u,Ev (fun k=>b7.f k p u at_) (S u)∧Ev (fun k=>en.f k (Bn P) u at_) (S u))
 (H:St v wv t T p P s w Z) (hz:Z.length≤100)
include B H hz hU hS
theorem zH (who:BA) {since:Int} (h0:0≤since) (h1:since≤w.bQ+(Z.length:Int)):Ev (fun k=>sync_Make.f k s who since at_) (⟨w.bQ+(Z.length:Int),(mmT wv who w.fM Z w.bQ since).map Gx,Gw wv who U Z w.bQ since,Gz wv who S Z w.bQ since⟩,0):=by
 obtain ⟨Y,y1,y2,y3,y4⟩:=ET H.lg om since
 have hY:∀ c,c∈Y↔A5 Z w.bQ since c=true:=fun c=>by rw [y4]; unfold A5; rw [decide_eq_true_iff]
 obtain ⟨q,q1,q2⟩:=xM B hU hS H who Y [] (by simp; omega) (fun c hc=>H.lg.ok c ((y4 c).1 hc).1)
 have hs:=H.AJ.rel.tD
 have mA:=yD (cf:=aT.cf) aT.yZ (A:=Y.filterMap (fA wv who w.fM)) (ys:=(mmT wv who w.fM Z w.bQ since).map Gx)
  (tZ (fun a b x ha hb=>by
   cases a <;> cases b <;> simp only [fA] at ha hb <;> (try cases ha) <;> (try cases hb)
   split at ha
   ·split at hb
    ·simp only [Option.some.injEq] at ha hb; rw [← hb] at ha; simp only [eQ.mk.injEq] at ha; rw [ha.1]
    ·cases hb
   ·cases ha) y2)
  (fun x=>by
   rw [List.mem_filterMap,List.mem_map]
   constructor
   ·rintro ⟨c,c1,c2⟩
    cases c with
    | m k=>
     simp only [fA] at c2
     split at c2
     ·rename_i hv
      rw [Bool.and_eq_true] at hv
      obtain ⟨pp,hp⟩:=Option.isSome_iff_exists.1 hv.1
      rw [hp] at c2
      refine ⟨⟨k,pp⟩,List.mem_filter.2 ⟨(EM hs).1 hp,?_⟩,Option.some.inj c2⟩
      rw [(hY _).1 c1]; exact hv.2
     ·cases c2
    | r _=>cases c2
    | u _=>cases c2
   ·rintro ⟨m,m1,rfl⟩
    obtain ⟨m2,m3⟩:=List.mem_filter.1 m1
    rw [Bool.and_eq_true] at m3
    have hg:=(EM hs (k:=m.fK) (p:=m.fY)).2 m2
    refine ⟨.m m.fK,(hY _).2 m3.1,?_⟩
    simp only [fA]
    rw [hg,m3.2]; rfl)
  (List.pairwise_map.2 ((hs.sublist List.filter_sublist).imp fun {a b} h=>h))
 have mB:=yD (cf:=aK.cf) aK.yZ (A:=Y.filterMap (fB wv who U)) (ys:=Gw wv who U Z w.bQ since)
  (tZ (fun a b x ha hb=>by
   cases a <;> cases b <;> simp only [fB] at ha hb <;> (try cases ha) <;> (try cases hb)
   split at ha
   ·split at hb
    ·simp only [Option.some.injEq] at ha hb; rw [← hb] at ha; simp only [eA.mk.injEq] at ha; rw [ha.1]
    ·cases hb
   ·cases ha) y2)
  (fun x=>by
   unfold Gw
   rw [List.mem_filterMap,List.mem_map]
   constructor
   ·rintro ⟨c,c1,c2⟩
    cases c with
    | r k=>
     simp only [fB] at c2
     split at c2
     ·rename_i hv
      refine ⟨k,List.mem_filter.2 ⟨((uU Z).2.2 k).2 ((y4 _).1 c1).1,?_⟩,Option.some.inj c2⟩
      rw [(hY _).1 c1,hv]; rfl
     ·cases c2
    | m _=>cases c2
    | u _=>cases c2
   ·rintro ⟨m,m1,rfl⟩
    obtain ⟨m2,m3⟩:=List.mem_filter.1 m1
    rw [Bool.and_eq_true] at m3
    exact ⟨.r m,(hY _).2 m3.1,by simp only [fB]; rw [if_pos m3.2]⟩)
  (List.pairwise_map.2 (((uU Z).1.sublist List.filter_sublist).imp fun {a b} h=>dT (mP.2 h)))
 have mC:=yD (cf:=aJ.cf) aJ.yZ (A:=Y.filterMap (fC wv who S)) (ys:=Gz wv who S Z w.bQ since)
  (tZ (fun a b x ha hb=>by
   cases a <;> cases b <;> simp only [fC] at ha hb <;> (try cases ha) <;> (try cases hb)
   split at ha
   ·split at hb
    ·simp only [Option.some.injEq] at ha hb; rw [← hb] at ha; simp only [eR.mk.injEq] at ha; rw [ha.1]
    ·cases hb
   ·cases ha) y2)
  (fun x=>by
   unfold Gz
   rw [List.mem_filterMap,List.mem_map]
   constructor
   ·rintro ⟨c,c1,c2⟩
    cases c with
    | u k=>
     simp only [fC] at c2
     split at c2
     ·rename_i hv
      refine ⟨k,List.mem_filter.2 ⟨((uP Z).2.2 k).2 ((y4 _).1 c1).1,?_⟩,Option.some.inj c2⟩
      rw [(hY _).1 c1,hv]; rfl
     ·cases c2
    | m _=>cases c2
    | r _=>cases c2
   ·rintro ⟨m,m1,rfl⟩
    obtain ⟨m2,m3⟩:=List.mem_filter.1 m1
    rw [Bool.and_eq_true] at m3
    exact ⟨.u m,(hY _).2 m3.1,by simp only [fC]; rw [if_pos m3.2]⟩)
  (List.pairwise_map.2 (((uP Z).1.sublist List.filter_sublist).imp fun {a b} h=>dT (mP.2 h)))
 have hat:iy.f s.gH=some (w.bQ+(Z.length:Int)):=by
  unfold iy.f iN.f
  have:=H.lg.at_
  simp [this]
 have sa:aT.f (Y.filterMap (fA wv who w.fM))=some ((mmT wv who w.fM Z w.bQ since).map Gx):=by
  unfold aT.f an
  rw [if_pos ⟨Nat.le_trans (List.length_filterMap_le _ _) om,mA.1⟩,mA.2]
 have sb:aK.f (Y.filterMap (fB wv who U))=some (Gw wv who U Z w.bQ since):=by
  unfold aK.f an
  rw [if_pos ⟨Nat.le_trans (List.length_filterMap_le _ _) om,mB.1⟩,mB.2]
 have sc:aJ.f (Y.filterMap (fC wv who S))=some (Gz wv who S Z w.bQ since):=by
  unfold aJ.f an
  rw [if_pos ⟨Nat.le_trans (List.length_filterMap_le _ _) om,mC.1⟩,mC.2]
 obtain ⟨qa,qb,qc,qd,qe,qf,qg⟩:=q
 simp only [List.nil_append,Prod.mk.injEq] at q2
 obtain ⟨rfl,rfl,rfl⟩:=q2
 unfold sync_Make.f
 refine Ev.cf (dF om) (Ev.bind (Ev.of hat) (Ev.cf (dF om) (Ev.bind (Ev.of hat) ?_)))
 exact Ev.bind (Ev.bind y1 q1.diag) (Ev.bind (Ev.of sa) (Ev.bind (Ev.of sb) (Ev.bind (Ev.of sc) Ev.pure)))
end
section
variable {v:aL} {wv:bF} {t:bZ} {T:List (ak×Bool)} {p:cI} {P:List (ak×Int)} {s:Src} {w:dt} {Z:List Cx}
end
end Go.Proofs.YtfknmdelgepbjaaGreatDoor
