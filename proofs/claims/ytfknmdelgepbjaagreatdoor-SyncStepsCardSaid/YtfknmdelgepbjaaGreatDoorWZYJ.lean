import Derived.Test.YtfknmdelgepbjaaGreatDoorWZYD
import Derived.Test.YtfknmdelgepbjaaGreatDoorWZPrPM
set_option linter.all false
set_option maxRecDepth 10000
namespace Go.Proofs.YtfknmdelgepbjaaGreatDoor
open Go Go.Sp
def B8 (T:List (ak×Bool)):kB:=⟨T.map (·.1),T.map (·.2)⟩
def Cj (P:List (ak×Int)):lF:=⟨P.map (·.1),P.map (·.2)⟩
structure Bs (v:aJ) (wv:bA) (t:bS) (T:List (ak×Bool)) (p:b7) (P:List (ak×Int)) (n:Nat):Prop where
 ok:I2 v wv
 ty:Ty.Rel t T n
 pr:Pr.Rel p P n
structure St (v:aJ) (wv:bA) (t:bS) (T:List (ak×Bool)) (p:b7) (P:List (ak×Int)) (s:Src) (w:dy) (Z:List Cx):Prop where
 sv:s.cI=v
 st:s.aO=t
 sp:s.aR=p
 wv:w.fV=wv
 wt:w.fT=B8 T
 wp:w.fP=Cj P
 EI:LO s.ay w.fM
 ml:w.fM.length≤Z.length
 mz:∀ m∈w.fM,Cx.m m.fK∈Z
 lg:DW s.fZ Z w.aL
 ch:w.fL=Z.map Cx.chg
def cx (e:ak):Cx:=if e.aH=1 then .m (z6 e) else if e.aH=2 then .r e.ab else .u e.aj
theorem cx_ok {e:ak} (h:GE e):(cx e).ok:=by
 unfold cx
 split
 ·rename_i k; exact kx_of h k
 ·split
  ·rename_i k; exact h.room om
  ·exact h.user
def qM (M:List MK) (e:ak) (o:Option Pos):List MK:=if e.aH=1 then yh M e o else M
theorem D4 {M:List MK} {e:ak} {o:Option Pos}:(qM M e o).length≤M.length+1:=by
 unfold qM
 split
 ·cases o with
  | none=>exact Nat.le_succ _
  | some p=>exact uz
 ·omega
theorem I3 {v:aJ} {wv:bA} {t:bS} {T:List (ak×Bool)} {p:b7} {P:List (ak×Int)} {n:Nat} (B:Bs v wv t T p P n) (hn:n≤100) {e:ak} (he:GE e):
  ∃ o t' T' p' P',Bs v wv t' T' p' P' (n+1)∧(e.aH=1→t'=t∧T'=T∧p'=p∧P'=P)∧
  ∀ s w Z,St v wv t T p P s w Z→Z.length≤100→∃ s' w',Ev (fun k=>nj.f k s w e) (w',true,s')∧St v wv t' T' p' P' s' w' (Z++[cx e])∧w'.aL=w.aL∧w'.fM=qM w.fM e o:=by
 have hc:=cx_ok he
 have tail:∀ {s:Src} {w:dy} {Z:List Cx},St v wv t T p P s w Z→Z.length≤100→w.fL.length≤100:=fun h hz=>by rw [h.ch,List.length_map]; exact hz
 rcases he.kind with hk | hk | hk
 ·obtain ⟨o,ho⟩:=BK B.ok he hk
  have hcx:cx e = .m (z6 e):=by unfold cx; rw [if_pos hk]
  refine ⟨o,t,T,p,P,⟨B.ok,Ty.nX B.ty (Nat.le_succ _),Pr.nX B.pr (Nat.le_succ _)⟩,fun _=>⟨rfl,rfl,rfl,rfl⟩,fun s w Z h hz=>?_⟩
  have hml:=h.ml
  obtain ⟨Q,b,c,m',h1,h2,h3⟩:=ho s.ay w.fM h.EI om
  obtain ⟨d',t1,t2⟩:=vQ h.lg om hc
  have hlen:=tail h hz
  rw [hcx] at t1 t2
  have hx:(Cx.m (z6 e)).ok:=by rw [← hcx]; exact hc
  have k1:=(BS hx).1
  have k2:=Cx.rI hx
  refine ⟨⟨v,m',t,p,d'⟩,⟨w.fV,yh w.fM e o,w.fT,w.fP,w.fL++[(Cx.m (z6 e)).chg],w.aL⟩,?_,⟨rfl,rfl,rfl,h.wv,h.wt,h.wp,h3,?_,?_,by rw [hcx]; exact t2,by rw [hcx]; show w.fL++_=_; rw [h.ch,List.map_append]; rfl⟩,rfl,by unfold qM; rw [if_pos hk]⟩
  ·unfold nj.f
   rw [h.sv,h.wv]
   refine Ev.bind (Ev.ct (by rw [hk]; rfl) (Ev.bind h1 (Ev.bind h2 (Ev.cf sM (Ev.cf sM (Ev.bind (Ev.of (show p9.f e=some (z6 e) from rfl)) (Ev.bind (Ev.of k1) Ev.pure))))))) ?_
   simp only [fall,List.nil_append,List.length_nil,Nat.zero_add,List.length_singleton]
   refine Ev.an ⟨om,om⟩ (Ev.an ⟨om,om⟩ (Ev.bind t1 (Ev.ct rfl (Ev.bind (Ev.of k2) (Ev.of ?_)))))
   rw [h.st,h.sp]
   show some (_,decide ((Cx.m (z6 e)).key=(Cx.m (z6 e)).key),_)=_
   rw [dT rfl]; rfl
  ·show (yh w.fM e o).length≤_
   have:=D4 (M:=w.fM) (e:=e) (o:=o)
   unfold qM at this; rw [if_pos hk] at this
   rw [List.length_append,List.length_singleton]; omega
  ·intro m hm
   rw [hcx]
   have hm:m∈yh w.fM e o:=hm
   cases o with
   | none=>exact List.mem_append_left _ (h.mz m hm)
   | some q=>
    rcases An m hm with k | k
    ·rw [k]; exact List.mem_append_right _ List.mem_cons_self
    ·exact List.mem_append_left _ (h.mz m k)
 ·obtain ⟨T',b,t',h1,h2,h3⟩:=Ty.wx B.ty om ⟨he,hk⟩
  have hcx:cx e = .r e.ab:=by unfold cx; rw [if_neg om,if_pos hk]
  refine ⟨none,t',T',p,P,⟨B.ok,h3,Pr.nX B.pr (Nat.le_succ _)⟩,fun k=>absurd k om,fun s w Z h hz=>?_⟩
  have hml:=h.ml
  obtain ⟨d',t1,t2⟩:=vQ h.lg om hc
  have hlen:=tail h hz
  rw [hcx] at t1 t2
  have hx:(Cx.r e.ab).ok:=by rw [← hcx]; exact hc
  have k1:=(AX _ hx).1
  have k2:=Cx.rI hx
  refine ⟨⟨v,s.ay,t',p,d'⟩,⟨w.fV,w.fM,B8 T',w.fP,w.fL++[(Cx.r e.ab).chg],w.aL⟩,?_,⟨rfl,rfl,rfl,h.wv,rfl,h.wp,h.EI,?_,fun m hm=>List.mem_append_left _ (h.mz m hm),by rw [hcx]; exact t2,by rw [hcx]; show w.fL++_=_; rw [h.ch,List.map_append]; rfl⟩,rfl,by unfold qM; rw [if_neg om]⟩
  ·unfold nj.f
   rw [h.st,h.wt]
   refine Ev.bind (Ev.cf (by rw [hk]; rfl) (Ev.ct (by rw [hk]; rfl) (Ev.bind h1 (Ev.bind h2 (Ev.cf sM (Ev.bind (Ev.of k1) Ev.pure)))))) ?_
   simp only [fall,List.nil_append,List.length_nil,Nat.zero_add,List.length_singleton]
   refine Ev.an ⟨om,om⟩ (Ev.an ⟨om,om⟩ (Ev.bind t1 (Ev.ct rfl (Ev.bind (Ev.of k2) (Ev.of ?_)))))
   rw [h.sv,h.sp]
   show some (_,decide ((Cx.r e.ab).key=(Cx.r e.ab).key),_)=_
   rw [dT rfl]; rfl
  ·show w.fM.length≤_
   rw [List.length_append,List.length_singleton]; omega
 ·obtain ⟨P',b,p',h1,h2,h3⟩:=Pr.wx B.pr om ⟨he,hk⟩
  have hcx:cx e = .u e.aj:=by unfold cx; rw [if_neg om,if_neg om]
  refine ⟨none,t,T,p',P',⟨B.ok,Ty.nX B.ty (Nat.le_succ _),h3⟩,fun k=>absurd k om,fun s w Z h hz=>?_⟩
  have hml:=h.ml
  obtain ⟨d',t1,t2⟩:=vQ h.lg om hc
  have hlen:=tail h hz
  rw [hcx] at t1 t2
  have hx:(Cx.u e.aj).ok:=by rw [← hcx]; exact hc
  have k1:=(A9 _ hx).1
  have k2:=Cx.rI hx
  refine ⟨⟨v,s.ay,t,p',d'⟩,⟨w.fV,w.fM,w.fT,Cj P',w.fL++[(Cx.u e.aj).chg],w.aL⟩,?_,⟨rfl,rfl,rfl,h.wv,h.wt,rfl,h.EI,?_,fun m hm=>List.mem_append_left _ (h.mz m hm),by rw [hcx]; exact t2,by rw [hcx]; show w.fL++_=_; rw [h.ch,List.map_append]; rfl⟩,rfl,by unfold qM; rw [if_neg om]⟩
  ·unfold nj.f
   rw [h.sp,h.wp]
   refine Ev.bind (Ev.cf (by rw [hk]; rfl) (Ev.cf (by rw [hk]; rfl) (Ev.bind h1 (Ev.bind h2 (Ev.cf sM (Ev.bind (Ev.of k1) Ev.pure)))))) ?_
   simp only [fall,List.nil_append,List.length_nil,Nat.zero_add,List.length_singleton]
   refine Ev.an ⟨om,om⟩ (Ev.an ⟨om,om⟩ (Ev.bind t1 (Ev.ct rfl (Ev.bind (Ev.of k2) (Ev.of ?_)))))
   rw [h.sv,h.st]
   show some (_,decide ((Cx.u e.aj).key=(Cx.u e.aj).key),_)=_
   rw [dT rfl]; rfl
  ·show w.fM.length≤_
   rw [List.length_append,List.length_singleton]; omega
def fr (wv:bA) (who u:BA):Bool:=(yf wv who).any (jb wv u)
def BD (wv:bA) (who:BA) (k:bB):Bool:=jb wv who k.ab&&(!k.aq||decide (k.aj=who))
def EX (wv:bA) (U:BA→List BA) (r:BA):List BA:=(U r).filter fun u=>jb wv u r
def fA (wv:bA) (who:BA) (M:List MK):Cx→Option jg
 | .m k=>if ((gM M k).isSome&&BD wv who k)=true then some ⟨k,(gM M k).getD ⟨0,⟨#[]⟩⟩⟩ else none
 | _=>none
def fB (wv:bA) (who:BA) (U:BA→List BA):Cx→Option fQ
 | .r r=>if jb wv who r=true then some ⟨r,EX wv U r⟩ else none
 | _=>none
def fC (wv:bA) (who:BA) (S:BA→Int):Cx→Option fU
 | .u u=>if fr wv who u=true then some ⟨u,S u⟩ else none
 | _=>none
theorem zh {α:Type} {cf:α→α→Int} (hC:Bo cf) {A ys:List α} (hn:A.Nodup) (hm:∀ x,x∈A↔x∈ys) (hs:ys.Pairwise fun x y=>ltOf cf x y=true):(A.Pairwise fun x y=>ltOf cf x y=true∨ltOf cf y x=true)∧kY cf A=ys:=by
 have hO:=hC.swo
 have hy:ys.Nodup:=hs.imp fun {a b} h e=>by subst e; rw [hO.irrefl] at h; cases h
 have hp:ys.Perm A:=(List.perm_ext_iff_of_nodup hy hn).2 fun x=>(hm x).symm
 have hd:A.Pairwise fun x y=>ltOf cf x y=true∨ltOf cf y x=true:=(hp.pairwise_iff Or.symm).1 (hs.imp .inl)
 refine ⟨hd,(Aw hO hd hp (hs.imp fun {a b} h=>?_)).symm⟩
 cases e:ltOf cf b a with
 | false=>rfl
 | true=>have:=hO.trans _ _ _ h e; rw [hO.irrefl] at this; cases this
theorem vU {α:Type} {f:Cx→Option α} (hf:∀ a b x,f a=some x→f b=some x→a=b) {Y:List Cx} (h:Y.Nodup):(Y.filterMap f).Nodup:=by
 refine List.pairwise_filterMap.2 (h.imp fun {a b} hab x hx y hy e=>?_)
 subst e; exact hab (hf a b x hx hy)
section
variable {v:aJ} {wv:bA} {t:bS} {T:List (ak×Bool)} {p:b7} {P:List (ak×Int)} {n:Nat}
theorem ops (B:Bs v wv t T p P n) (hn:n≤1000) (at_:Int):∃ (U:BA→List BA) (S:BA→Int),
  (∀ r,(U r).length≤1000∧Ev (fun k=>aT.f k t r at_) (U r)∧Ev (fun k=>dt.f k (B8 T) r at_) (U r))∧
  ∀ u,Ev (fun k=>bX.f k p u at_) (S u)∧Ev (fun k=>dz.f k (Cj P) u at_) (S u):=by
 have hT:(T.map (·.1)).length≤1000:=by rw [List.length_map]; have:=B.ty.ln; omega
 have hP:(P.map (·.1)).length≤1000:=by rw [List.length_map]; have:=B.pr.ln; omega
 have h1:∀ r:BA,∃ vs:List BA,vs.length≤1000∧Ev (fun k=>aT.f k t r at_) vs∧Ev (fun k=>dt.f k (B8 T) r at_) vs:=fun r=>by
  obtain ⟨vs,a1,a2,a3⟩:=Ty.Cf (T:=T.map (·.2)) (h:=t.gV) om B.ty.ri r at_
  have e:t=⟨T.map (·.1),t.gV⟩:=by rw [← B.ty.fl]
  rw [← e] at a2
  exact ⟨vs,om,a2,a3⟩
 have h2:∀ u:BA,∃ b:Int,Ev (fun k=>bX.f k p u at_) b∧Ev (fun k=>dz.f k (Cj P) u at_) b:=fun u=>by
  have ok:∀ x∈P.map (·.1),Pr.mQ x:=Pr.Ly B.pr
  obtain ⟨b,b1,b2⟩:=Pr.EA (h:=p.eV) om B.pr.ri ok u at_
  obtain ⟨b',c1,c2⟩:=Pr.zE (T:=P.map (·.2)) om ok u at_
  rw [Pr.HB.uniq B.pr.ri c1 b1] at c2
  have e:p=⟨P.map (·.1),p.eV⟩:=by rw [← B.pr.fl]
  rw [← e] at b2
  exact ⟨b,b2,c2⟩
 obtain ⟨U,hU⟩:=Classical.axiomOfChoice h1
 obtain ⟨S,hS⟩:=Classical.axiomOfChoice h2
 exact ⟨U,S,hU,hS⟩
variable {U:BA→List BA} {S:BA→Int} {at_:Int} {s:Src} {w:dy} {Z:List Cx} (B:Bs v wv t T p P n)
 (hU:∀ r,(U r).length≤1000∧Ev (fun k=>aT.f k t r at_) (U r)∧Ev (fun k=>dt.f k (B8 T) r at_) (U r))
 (hS:∀ u,Ev (fun k=>bX.f k p u at_) (S u)∧Ev (fun k=>dz.f k (Cj P) u at_) (S u))
 (H:St v wv t T p P s w Z)
theorem yR (B:Bs v wv t T p P n) (u r:BA):Ev (fun k=>bP.f k v r u) (jb wv u r):=jv B.ok.rel B.ok.jo B.ok.len u r
theorem zx (B:Bs v wv t T p P n) (u r:BA):Ev (fun k=>er.f k wv r u) (jb wv u r):=jr B.ok.rel B.ok.jo B.ok.len u r
include B hU H
theorem FH (r:BA):Ev (fun k=>lx.f k s r at_) (EX wv U r):=by
 obtain ⟨u1,u2,_⟩:=hU r
 unfold lx.f
 rw [H.st]
 have pr:∀ x,Ev (fun k=>iO.f k x s r) (!jb wv x r):=fun x=>by
  unfold iO.f
  rw [H.sv]
  exact Ev.bind (yR B x r) Ev.pure
 have h:=vL (p:=fun k x=>iO.f k x s r) (b:=fun x=>!jb wv x r) pr (xs:=U r) om
 have e:(U r).filter (fun x=>!!jb wv x r)=EX wv U r:=by unfold EX; congr 1; funext x; rw [Bool.not_not]
 rw [e] at h
 exact Ev.bind u2 (Ev.bind h Ev.pure)
omit hU
theorem mark1 (who:BA) (k:bB):Ev (fun j=>hM.f j s k who) (⟨k,(gM w.fM k).getD ⟨0,⟨#[]⟩⟩⟩,(gM w.fM k).isSome&&BD wv who k):=by
 unfold hM.f gA.f
 rw [H.EI.rel.get k,H.sv]
 refine Ev.bind (Ev.of rfl) ?_
 dsimp only
 cases hg:(gM w.fM k).isSome with
 | false=>exact Ev.cf rfl (Ev.of (by simp [hg]))
 | true=>
  refine Ev.ct rfl (Ev.bind (yR B who k.ab) ?_)
  unfold BD
  cases hj:jb wv who k.ab with
  | false=>exact Ev.cf rfl (Ev.of (by simp [hg]))
  | true=>
   refine Ev.ct rfl ?_
   cases hp:k.aq with
   | false=>exact Ev.ct rfl (Ev.of (by simp [hg]))
   | true=>exact Ev.cf rfl (Ev.of (by simp [hg]))
include hU hS
theorem xX (who:BA):∀ (C A:List Cx),(A++C).length≤1000→(∀ c∈A++C,c.ok)→
  ∃ q,El (fun k j=>sync_Make.l0 k s who at_ ((A++C).map Cx.key) j (A.length:Int) (A.filterMap (fA wv who w.fM)) (A.filterMap (fB wv who U)) (A.filterMap (fC wv who S))) q∧q.2.2.2.2=((A++C).filterMap (fA wv who w.fM),(A++C).filterMap (fB wv who U),(A++C).filterMap (fC wv who S))
 | [],A,hl,hz=>by
  refine ⟨((((A++[]).map Cx.key).length:Int),(A.length:Int),false,(A++[]).map Cx.key,A.filterMap (fA wv who w.fM),A.filterMap (fB wv who U),A.filterMap (fC wv who S)),El.step (fun _ _=>by rw [sync_Make.l0]) ?_,?_⟩
  ·rw [dF (by rw [List.length_map,List.append_nil]; omega)]
   exact El.pure
  ·rw [List.append_nil]
 | c::C,A,hl,hz=>by
  have e:A++c::C=(A++[c])++C:=sM
  have hc:c.ok:=hz c sM
  obtain ⟨q,h1,h2⟩:=xX who C (A++[c]) (by rw [← e]; exact hl) (by rw [← e]; exact hz)
  rw [← e] at h1 h2
  refine ⟨q,El.step (fun _ _=>by rw [sync_Make.l0]) ?_,h2⟩
  have hlen:((A++c::C).map Cx.key).length=A.length+(C.length+1):=sM
  have hl':A.length+(C.length+1)≤1000:=by rw [← hlen,List.length_map]; exact hl
  have hat:((A++c::C).map Cx.key).getD (A.length:Int).toNat default=c.key:=by
   rw [Int.toNat_natCast,gD,List.getElem?_map,List.getElem?_append_right (Nat.le_refl _)]; simp
  have hw:av ((A.length:Int)+1)=(((A++[c]).length:Nat):Int):=by rw [aE om om,List.length_append]; rfl
  have la:(A.filterMap (fA wv who w.fM)).length≤A.length:=List.length_filterMap_le _ _
  have lb:(A.filterMap (fB wv who U)).length≤A.length:=List.length_filterMap_le _ _
  have lc:(A.filterMap (fC wv who S)).length≤A.length:=List.length_filterMap_le _ _
  have ap:∀ {β:Type} (f:Cx→Option β),(A++[c]).filterMap f=A.filterMap f++(f c).toList:=fun f=>by
   rw [List.filterMap_append]; cases h:f c <;> simp [h]
  refine El.ct (dT (by rw [hlen]; omega)) (El.an ⟨om,by rw [hlen]; omega⟩ ?_)
  rw [hat,hw]
  rw [ap,ap,ap] at h1
  cases c with
  | m k=>
   have m1:=mark1 B H who k
   simp only [fB,fC,Option.toList_none,List.append_nil] at h1
   refine El.bind (Cx.of hc).el ?_
   cases hv:(gM w.fM k).isSome&&BD wv who k with
   | true=>
    rw [hv] at m1
    rw [fA,if_pos hv] at h1
    refine El.bind (Ev.ct rfl (Ev.bind m1 (Ev.ct rfl (Ev.an ?_ Ev.pure)))).el (El.cf rfl h1)
    rw [List.length_singleton]; omega
   | false=>
    rw [hv] at m1
    rw [fA,if_neg (by rw [hv]; decide)] at h1
    simp only [Option.toList_none,List.append_nil] at h1
    refine El.bind (a:=(A.filterMap (fA wv who w.fM),A.filterMap (fB wv who U))) ?_ (El.cf rfl h1)
    refine Ev.el (Ev.ct rfl ?_)
    refine Ev.bind m1 ?_
    exact Ev.cf rfl Ev.pure
  | r r=>
   have j1:=yR B who r
   rw [← H.sv] at j1
   simp only [fA,fC,Option.toList_none,List.append_nil] at h1
   refine El.bind (Cx.of hc).el ?_
   cases hv:jb wv who r with
   | true=>
    rw [hv] at j1
    rw [fB,if_pos hv] at h1
    refine El.bind (Ev.cf rfl (Ev.ct rfl (Ev.bind j1 (Ev.ct rfl (Ev.bind (FH B hU H r) (Ev.an ?_ Ev.pure)))))).el (El.cf rfl h1)
    rw [List.length_singleton]; omega
   | false=>
    rw [hv] at j1
    rw [fB,if_neg (by rw [hv]; decide)] at h1
    simp only [Option.toList_none,List.append_nil] at h1
    refine El.bind (a:=(A.filterMap (fA wv who w.fM),A.filterMap (fB wv who U))) ?_ (El.cf rfl h1)
    refine Ev.el (Ev.cf rfl (Ev.ct rfl ?_))
    refine Ev.bind j1 ?_
    exact Ev.cf rfl Ev.pure
  | u u=>
   have j1:Ev (fun k=>fa.f k s.cI who u) (fr wv who u):=by rw [H.sv]; exact Ad B.ok.rel B.ok.jo B.ok.len who u
   have st:=(hS u).1
   rw [← H.sp] at st
   simp only [fA,fB,Option.toList_none,List.append_nil] at h1
   refine El.bind (Cx.of hc).el ?_
   refine El.bind (a:=(A.filterMap (fA wv who w.fM),A.filterMap (fB wv who U))) (Ev.cf rfl (Ev.cf rfl Ev.pure)).el (El.ct rfl ?_)
   cases hv:fr wv who u with
   | true=>
    rw [hv] at j1
    rw [fC,if_pos hv] at h1
    refine El.bind j1.el (El.ct rfl (El.bind st.el (El.an ?_ h1)))
    rw [List.length_singleton]; omega
   | false=>
    rw [hv] at j1
    rw [fC,if_neg (by rw [hv]; decide)] at h1
    simp only [Option.toList_none,List.append_nil] at h1
    exact El.bind j1.el (El.cf rfl h1)
end
def pq (Z:List Cx) (from_ since:Int) (c:Cx):Bool:=decide (c∈Z∧since<from_+(gU Z c:Int))
def stR (l:List BA):Cx→List BA
 | .r s=>putG s false l
 | _=>l
def stU (l:List BA):Cx→List BA
 | .u s=>putG s false l
 | _=>l
def RR (Z:List Cx):List BA:=Z.foldl stR []
def UU (Z:List Cx):List BA:=Z.foldl stU []
theorem GK (Z:List Cx) (c:Cx):RR (Z++[c])=stR (RR Z) c:=by unfold RR; rw [List.foldl_append]; rfl
theorem FQ (Z:List Cx) (c:Cx):UU (Z++[c])=stU (UU Z) c:=by unfold UU; rw [List.foldl_append]; rfl
theorem tR (Z:List Cx):sY (RR Z)∧(RR Z).length≤Z.length∧∀ r,r∈RR Z↔Cx.r r∈Z:=by
 induction Z using Ha with
 | h0=>exact ⟨List.Pairwise.nil,Nat.le_refl _,fun r=>by simp [RR]⟩
 | h1 Y c ih=>
  obtain ⟨i1,i2,i3⟩:=ih
  rw [GK,List.length_append,List.length_singleton]
  cases c with
  | r s=>
   refine ⟨sI i1,Nat.le_trans (vF s _ _) om,fun r=>?_⟩
   show r∈putG s false _↔_
   rw [sG,i3,List.mem_append,List.mem_singleton,Cx.r.injEq]
   by_cases e:r=s <;> simp [e]
  | m k=>exact ⟨i1,Nat.le_succ_of_le i2,fun r=>by rw [List.mem_append]; simpa [stR] using i3 r⟩
  | u k=>exact ⟨i1,Nat.le_succ_of_le i2,fun r=>by rw [List.mem_append]; simpa [stR] using i3 r⟩
theorem tD (Z:List Cx):sY (UU Z)∧(UU Z).length≤Z.length∧∀ r,r∈UU Z↔Cx.u r∈Z:=by
 induction Z using Ha with
 | h0=>exact ⟨List.Pairwise.nil,Nat.le_refl _,fun r=>by simp [UU]⟩
 | h1 Y c ih=>
  obtain ⟨i1,i2,i3⟩:=ih
  rw [FQ,List.length_append,List.length_singleton]
  cases c with
  | u s=>
   refine ⟨sI i1,Nat.le_trans (vF s _ _) om,fun r=>?_⟩
   show r∈putG s false _↔_
   rw [sG,i3,List.mem_append,List.mem_singleton,Cx.u.injEq]
   by_cases e:r=s <;> simp [e]
  | m k=>exact ⟨i1,Nat.le_succ_of_le i2,fun r=>by rw [List.mem_append]; simpa [stU] using i3 r⟩
  | r k=>exact ⟨i1,Nat.le_succ_of_le i2,fun r=>by rw [List.mem_append]; simpa [stU] using i3 r⟩
def oY (wv:bA) (who:BA) (M:List MK) (Z:List Cx) (from_ since:Int):List MK:=M.filter fun m=>pq Z from_ since (.m m.fK)&&BD wv who m.fK
def Bp (wv:bA) (who:BA) (U:BA→List BA) (Z:List Cx) (from_ since:Int):List fQ:=((RR Z).filter fun r=>pq Z from_ since (.r r)&&jb wv who r).map fun r=>⟨r,EX wv U r⟩
def Bn (wv:bA) (who:BA) (S:BA→Int) (Z:List Cx) (from_ since:Int):List fU:=((UU Z).filter fun u=>pq Z from_ since (.u u)&&fr wv who u).map fun u=>⟨u,S u⟩
def KF (m:MK):jg:=⟨m.fK,m.eH⟩
theorem rG {M:List MK} (h:nL M) {k:bB} {p:Pos}:gM M k=some p↔(⟨k,p⟩:MK)∈M:=by
 induction M with
 | nil=>simp [gM]
 | cons m M ih=>
  have hc:=List.pairwise_cons.1 h
  rw [gM,List.mem_cons]
  by_cases e:m.fK=k
  ·rw [if_pos e]
   constructor
   ·intro h1
    cases m with
    | mk a b=>simp only [Option.some.injEq] at h1 e; left; rw [h1,e]
   ·rintro (h1 | h1)
    ·rw [← h1]
    ·have:=hc.1 _ h1; rw [e,qZ] at this; cases this
  ·rw [if_neg e,ih hc.2]
   constructor
   ·exact .inr
   ·rintro (h1 | h1)
    ·rw [← h1] at e; exact absurd rfl e
    ·exact h1
section
variable {v:aJ} {wv:bA} {t:bS} {T:List (ak×Bool)} {p:b7} {P:List (ak×Int)} {n:Nat}
 {U:BA→List BA} {S:BA→Int} {at_:Int} {s:Src} {w:dy} {Z:List Cx} (B:Bs v wv t T p P n)
 (hU:∀ r,(U r).length≤1000∧Ev (fun k=>aT.f k t r at_) (U r)∧Ev (fun k=>dt.f k (B8 T) r at_) (U r))
 (hS:∀ u,Ev (fun k=>bX.f k p u at_) (S u)∧Ev (fun k=>dz.f k (Cj P) u at_) (S u))
 (H:St v wv t T p P s w Z) (hz:Z.length≤100)
include B H hz
theorem Cq {since:Int} (h0:0≤since) {c:Cx} (hc:c.ok):Ev (fun k=>fS.f k (⟨w.fV,w.fM,w.fT,w.fP,w.fL,w.aL⟩:dy) since c.key) (pq Z w.aL since c):=
 B3 (s:=w) H.ch H.lg.ok om H.lg.fr h0 hc
theorem CK (who:BA) {since:Int} (h0:0≤since):∀ C A:List MK,w.fM=A++C→
  El (fun k j=>bu.l3 k w who since j (A.length:Int) (oY wv who A Z w.aL since)) ((w.fM.length:Int),false,oY wv who w.fM Z w.aL since)
 | [],A,he=>by
  refine El.step (fun _ _=>by rw [bu.l3]) ?_
  rw [List.append_nil] at he
  rw [dF (by rw [he]; omega),he]
  exact El.pure
 | c::C,A,he=>by
  have e:w.fM=(A++[c])++C:=by rw [he]; simp
  have ih:=CK who h0 C (A++[c]) e
  have hlt:A.length<w.fM.length:=by rw [he]; simp
  have hml:=H.ml
  have hc:(Cx.m c.fK).ok:=H.lg.ok _ (H.mz c (by rw [he]; simp))
  have hat:MK.K.at w.fM (A.length:Int)=c:=by rw [he]; exact pH _ _ _
  have hw:av ((A.length:Int)+1)=(((A++[c]).length:Nat):Int):=by rw [aE om om,List.length_append]; rfl
  have hj:Ev (fun k=>er.f k w.fV c.fK.ab who) (jb wv who c.fK.ab):=by rw [H.wv]; exact zx B who c.fK.ab
  have la:(oY wv who A Z w.aL since).length≤A.length:=List.length_filter_le _ _
  have ap:oY wv who (A++[c]) Z w.aL since=oY wv who A Z w.aL since++if (pq Z w.aL since (.m c.fK)&&BD wv who c.fK)=true then [c] else []:=by
   unfold oY; rw [List.filter_append,List.filter_cons]; simp only [List.filter_nil]
  rw [ap] at ih
  refine El.step (fun _ _=>by rw [bu.l3]) ?_
  rw [hat,hw]
  refine El.ct (dT om) (El.an ⟨om,om⟩ (El.bind (Ev.of (Cx.rI hc)).el (El.bind (Cq B H hz h0 hc).el (El.bind hj.el ?_))))
  unfold BD at ih
  cases h1:pq Z w.aL since (.m c.fK) with
  | false=>rw [h1] at ih; exact El.cf rfl (by simpa using ih)
  | true=>
   refine El.ct rfl ?_
   rw [h1] at ih
   cases h2:jb wv who c.fK.ab with
   | false=>rw [h2] at ih; exact El.cf rfl (by simpa using ih)
   | true=>
    refine El.ct rfl ?_
    rw [h2] at ih
    cases h3:c.fK.aq with
    | false=>
     rw [h3] at ih
     refine El.ct rfl (El.an ⟨om,om⟩ (El.an ?_ ?_))
     ·rw [List.length_singleton]; omega
     ·simpa using ih
    | true=>
     rw [h3] at ih
     refine El.cf rfl ?_
     by_cases h4:c.fK.aj=who
     ·refine El.ct (dT h4) (El.an ⟨om,om⟩ (El.an ?_ ?_))
      ·rw [List.length_singleton]; omega
      ·rw [dT h4] at ih; simpa using ih
     ·refine El.cf (dF h4) ?_
      rw [dF h4] at ih; simpa using ih
theorem Dz:∀ C A:List Cx,Z=A++C→El (fun k j=>bu.l2 k w j (A.length:Int) (RR A) (UU A)) ((Z.length:Int),false,RR Z,UU Z)
 | [],A,he=>by
  refine El.step (fun _ _=>by rw [bu.l2]) ?_
  rw [List.append_nil] at he
  rw [dF (by rw [H.ch,List.length_map,he]; omega),he]
  exact El.pure
 | c::C,A,he=>by
  have e:Z=(A++[c])++C:=by rw [he]; simp
  have ih:=Dz C (A++[c]) e
  have hlt:A.length<Z.length:=by rw [he]; simp
  have hll:w.fL.length=Z.length:=by rw [H.ch,List.length_map]
  have hat:jO.K.at w.fL (A.length:Int)=c.chg:=by
   rw [Fm om]
   simp only [H.ch,List.getElem_map]
   congr 1
   simp only [he]
   rw [List.getElem_append_right (Nat.le_refl _)]; simp
  have hw:av ((A.length:Int)+1)=(((A++[c]).length:Nat):Int):=by rw [aE om om,List.length_append]; rfl
  have ra:=(tR A).2.1
  have ua:=(tD A).2.1
  rw [GK,FQ] at ih
  refine El.step (fun _ _=>by rw [bu.l2]) ?_
  rw [hat,hw]
  refine El.ct (dT om) ?_
  cases c with
  | m k=>
   refine El.bind (a:=RR A) (Ev.an ⟨om,om⟩ (Ev.cf rfl Ev.pure)).el (El.an ⟨om,om⟩ (El.cf rfl ih))
  | r x=>
   refine El.bind (a:=putG x false (RR A)) (Ev.an ⟨om,om⟩ (Ev.ct rfl (Ev.an ⟨om,om⟩ (Ev.bind (Dc (RR A) x om) Ev.pure)))).el (El.an ⟨om,om⟩ (El.cf rfl ih))
  | u x=>
   refine El.bind (a:=RR A) (Ev.an ⟨om,om⟩ (Ev.cf rfl Ev.pure)).el (El.an ⟨om,om⟩ (El.ct rfl (El.an ⟨om,om⟩ (El.bind (Dc (UU A) x om).el ih))))
include hU
theorem tZ (r:BA):∀ C A:List BA,U r=A++C→El (fun k j=>fi.l0 k (⟨w.fV,w.fM,w.fT,w.fP,w.fL,w.aL⟩:dy) r (U r) j (A.length:Int) (A.filter fun u=>jb wv u r)) (((U r).length:Int),false,EX wv U r)
 | [],A,he=>by
  refine El.step (fun _ _=>by rw [fi.l0]) ?_
  rw [List.append_nil] at he
  rw [dF (by rw [he]; omega),← he]
  exact El.pure
 | c::C,A,he=>by
  have ih:=tZ r C (A++[c]) (by rw [he]; simp)
  obtain ⟨u1,_,u3⟩:=hU r
  have hlt:A.length<(U r).length:=by rw [he]; simp
  have hat:(U r).getD (A.length:Int).toNat default=c:=by rw [Int.toNat_natCast,he,gD,List.getElem?_append_right (Nat.le_refl _)]; simp
  have hw:av ((A.length:Int)+1)=(((A++[c]).length:Nat):Int):=by rw [aE om om,List.length_append]; rfl
  have hj:Ev (fun k=>er.f k w.fV r c) (jb wv c r):=by rw [H.wv]; exact zx B c r
  have la:(A.filter fun u=>jb wv u r).length≤A.length:=List.length_filter_le _ _
  rw [List.filter_append,List.filter_cons,List.filter_nil] at ih
  refine El.step (fun _ _=>by rw [fi.l0]) ?_
  rw [hat,hw]
  refine El.ct (dT om) (El.an ⟨om,om⟩ (El.bind hj.el ?_))
  cases h2:jb wv c r with
  | false=>rw [h2] at ih; exact El.cf rfl (by simpa using ih)
  | true=>
   rw [h2] at ih
   refine El.ct rfl (El.an ⟨om,om⟩ (El.an ?_ ih))
   rw [List.length_singleton]; omega
theorem xS (r:BA):Ev (fun k=>fi.f k (⟨w.fV,w.fM,w.fT,w.fP,w.fL,w.aL⟩:dy) r at_) (EX wv U r):=by
 obtain ⟨u1,_,u3⟩:=hU r
 unfold fi.f
 have h3:Ev (fun k=>dt.f k w.fT r at_) (U r):=by rw [H.wt]; exact u3
 exact Ev.bind h3 (Ev.bind (tZ B hU H hz r (U r) [] rfl).diag Ev.pure)
theorem CM (who:BA) {since:Int} (h0:0≤since) {q:Int×Bool×List BA×List BA} (hq:q.2.2.1=RR Z):∀ C A:List BA,RR Z=A++C→
  El (fun k j=>bu.l1 k w who since at_ q j (A.length:Int) ((A.filter fun r=>pq Z w.aL since (.r r)&&jb wv who r).map fun r=>⟨r,EX wv U r⟩)) (((RR Z).length:Int),false,Bp wv who U Z w.aL since)
 | [],A,he=>by
  refine El.step (fun _ _=>by rw [bu.l1]) ?_
  rw [List.append_nil] at he
  rw [hq,dF (by rw [he]; omega),← he]
  exact El.pure
 | c::C,A,he=>by
  have ih:=CM who h0 hq C (A++[c]) (by rw [he]; simp)
  have hlt:A.length<(RR Z).length:=by rw [he]; simp
  have hzl:=(tR Z).2.1
  have hat:(RR Z).getD (A.length:Int).toNat default=c:=by rw [Int.toNat_natCast,he,gD,List.getElem?_append_right (Nat.le_refl _)]; simp
  have hw:av ((A.length:Int)+1)=(((A++[c]).length:Nat):Int):=by rw [aE om om,List.length_append]; rfl
  have hc:(Cx.r c).ok:=H.lg.ok _ (((tR Z).2.2 c).1 (by rw [he]; simp))
  have hj:Ev (fun k=>er.f k w.fV c who) (jb wv who c):=by rw [H.wv]; exact zx B who c
  have la:(A.filter fun r=>pq Z w.aL since (.r r)&&jb wv who r).length≤A.length:=List.length_filter_le _ _
  rw [List.filter_append,List.filter_cons,List.filter_nil,List.map_append] at ih
  refine El.step (fun _ _=>by rw [bu.l1]) ?_
  rw [hq,hat,hw]
  refine El.ct (dT om) (El.an ⟨om,om⟩ (El.bind (Ev.of (Cx.rI hc)).el (El.bind (Cq B H hz h0 hc).el (El.an ⟨om,om⟩ (El.bind hj.el ?_)))))
  cases h1:pq Z w.aL since (.r c) with
  | false=>rw [h1] at ih; exact El.cf rfl (by simpa using ih)
  | true=>
   refine El.ct rfl ?_
   cases h2:jb wv who c with
   | false=>rw [h1,h2] at ih; exact El.cf rfl (by simpa using ih)
   | true=>
    rw [h1,h2] at ih
    refine El.ct rfl (El.an ⟨om,om⟩ (El.an ⟨om,om⟩ (El.bind (xS B hU H hz c).el (El.an ?_ ?_))))
    ·rw [List.length_map,List.length_singleton]; omega
    ·simpa using ih
omit hU
include hS
theorem DC (who:BA) {since:Int} (h0:0≤since) {q:Int×Bool×List BA×List BA} (hq:q.2.2.2=UU Z):∀ C A:List BA,UU Z=A++C→
  El (fun k j=>bu.l0 k w who since at_ q j (A.length:Int) ((A.filter fun u=>pq Z w.aL since (.u u)&&fr wv who u).map fun u=>⟨u,S u⟩)) (((UU Z).length:Int),false,Bn wv who S Z w.aL since)
 | [],A,he=>by
  refine El.step (fun _ _=>by rw [bu.l0]) ?_
  rw [List.append_nil] at he
  rw [hq,dF (by rw [he]; omega),← he]
  exact El.pure
 | c::C,A,he=>by
  have ih:=DC who h0 hq C (A++[c]) (by rw [he]; simp)
  have hlt:A.length<(UU Z).length:=by rw [he]; simp
  have hzl:=(tD Z).2.1
  have hat:(UU Z).getD (A.length:Int).toNat default=c:=by rw [Int.toNat_natCast,he,gD,List.getElem?_append_right (Nat.le_refl _)]; simp
  have hw:av ((A.length:Int)+1)=(((A++[c]).length:Nat):Int):=by rw [aE om om,List.length_append]; rfl
  have hc:(Cx.u c).ok:=H.lg.ok _ (((tD Z).2.2 c).1 (by rw [he]; simp))
  have hj:Ev (fun k=>dP.f k w.fV who c) (fr wv who c):=by rw [H.wv]; exact z7 B.ok.rel B.ok.jo B.ok.len who c
  have hs2:=(hS c).2
  rw [← H.wp] at hs2
  have la:(A.filter fun u=>pq Z w.aL since (.u u)&&fr wv who u).length≤A.length:=List.length_filter_le _ _
  rw [List.filter_append,List.filter_cons,List.filter_nil,List.map_append] at ih
  refine El.step (fun _ _=>by rw [bu.l0]) ?_
  rw [hq,hat,hw]
  refine El.ct (dT om) (El.an ⟨om,om⟩ (El.bind (Ev.of (Cx.rI hc)).el (El.bind (Cq B H hz h0 hc).el (El.an ⟨om,om⟩ (El.bind hj.el ?_)))))
  cases h1:pq Z w.aL since (.u c) with
  | false=>rw [h1] at ih; exact El.cf rfl (by simpa using ih)
  | true=>
   refine El.ct rfl ?_
   cases h2:fr wv who c with
   | false=>rw [h1,h2] at ih; exact El.cf rfl (by simpa using ih)
   | true=>
    rw [h1,h2] at ih
    refine El.ct rfl (El.an ⟨om,om⟩ (El.an ⟨om,om⟩ (El.bind hs2.el (El.an ?_ ?_))))
    ·rw [List.length_map,List.length_singleton]; omega
    ·simpa using ih
end
section
variable {v:aJ} {wv:bA} {t:bS} {T:List (ak×Bool)} {p:b7} {P:List (ak×Int)} {n:Nat}
 {U:BA→List BA} {S:BA→Int} {at_:Int} {s:Src} {w:dy} {Z:List Cx} (B:Bs v wv t T p P n)
 (hU:∀ r,(U r).length≤1000∧Ev (fun k=>aT.f k t r at_) (U r)∧Ev (fun k=>dt.f k (B8 T) r at_) (U r))
 (hS:∀ u,Ev (fun k=>bX.f k p u at_) (S u)∧Ev (fun k=>dz.f k (Cj P) u at_) (S u))
 (H:St v wv t T p P s w Z) (hz:Z.length≤100)
include B H hz hU hS
theorem GW (who:BA) {since:Int} (h0:0≤since) (h1:since≤w.aL+(Z.length:Int)):Ev (fun k=>bu.f k w who since at_) (⟨w.aL+(Z.length:Int),oY wv who w.fM Z w.aL since,Bp wv who U Z w.aL since,Bn wv who S Z w.aL since⟩,0):=by
 unfold bu.f
 have hf:=H.lg.fr
 have e:av (w.aL+(w.fL.length:Int))=w.aL+(Z.length:Int):=by rw [H.ch,List.length_map,aE om om]
 rw [e]
 refine Ev.cf (dF om) (Ev.cf (dF om) ?_)
 refine Ev.bind (CK B H hz who h0 w.fM [] rfl).diag (Ev.bind (Dz B H hz Z [] rfl).diag ?_)
 refine Ev.bind (CM B hU H hz who h0 (q:=((Z.length:Int),false,RR Z,UU Z)) rfl (RR Z) [] rfl).diag ?_
 exact Ev.bind (DC B hS H hz who h0 (q:=((Z.length:Int),false,RR Z,UU Z)) rfl (UU Z) [] rfl).diag Ev.pure
theorem He (who:BA) {since:Int} (h0:0≤since) (h1:since≤w.aL+(Z.length:Int)):Ev (fun k=>sync_Make.f k s who since at_) (⟨w.aL+(Z.length:Int),(oY wv who w.fM Z w.aL since).map KF,Bp wv who U Z w.aL since,Bn wv who S Z w.aL since⟩,0):=by
 obtain ⟨Y,y1,y2,y3,y4⟩:=E3 H.lg om since
 have hY:∀ c,c∈Y↔pq Z w.aL since c=true:=fun c=>by rw [y4]; unfold pq; rw [decide_eq_true_iff]
 obtain ⟨q,q1,q2⟩:=xX B hU hS H who Y [] (by simp; omega) (fun c hc=>H.lg.ok c ((y4 c).1 hc).1)
 have hs:=H.EI.rel.ri
 have mA:=zh (cf:=aW.cf) aW.AF (A:=Y.filterMap (fA wv who w.fM)) (ys:=(oY wv who w.fM Z w.aL since).map KF)
  (vU (fun a b x ha hb=>by
   cases a <;> cases b <;> simp only [fA] at ha hb <;> (try cases ha) <;> (try cases hb)
   split at ha
   ·split at hb
    ·simp only [Option.some.injEq] at ha hb; rw [← hb] at ha; simp only [jg.mk.injEq] at ha; rw [ha.1]
    ·cases hb
   ·cases ha) y2)
  (fun x=>by
   rw [List.mem_filterMap,List.mem_map]
   constructor
   ·rintro ⟨c,c1,c2⟩
    cases c with
    | m k=>
     simp only [fA] at c2
     split at c2
     ·rename_i hv
      rw [Bool.and_eq_true] at hv
      obtain ⟨pp,hp⟩:=Option.isSome_iff_exists.1 hv.1
      rw [hp] at c2
      refine ⟨⟨k,pp⟩,List.mem_filter.2 ⟨(rG hs).1 hp,?_⟩,Option.some.inj c2⟩
      rw [(hY _).1 c1]; exact hv.2
     ·cases c2
    | r _=>cases c2
    | u _=>cases c2
   ·rintro ⟨m,m1,rfl⟩
    obtain ⟨m2,m3⟩:=List.mem_filter.1 m1
    rw [Bool.and_eq_true] at m3
    have hg:=(rG hs (k:=m.fK) (p:=m.eH)).2 m2
    refine ⟨.m m.fK,(hY _).2 m3.1,?_⟩
    simp only [fA]
    rw [hg,m3.2]; rfl)
  (List.pairwise_map.2 ((hs.sublist List.filter_sublist).imp fun {a b} h=>h))
 have mB:=zh (cf:=aM.cf) aM.AF (A:=Y.filterMap (fB wv who U)) (ys:=Bp wv who U Z w.aL since)
  (vU (fun a b x ha hb=>by
   cases a <;> cases b <;> simp only [fB] at ha hb <;> (try cases ha) <;> (try cases hb)
   split at ha
   ·split at hb
    ·simp only [Option.some.injEq] at ha hb; rw [← hb] at ha; simp only [fQ.mk.injEq] at ha; rw [ha.1]
    ·cases hb
   ·cases ha) y2)
  (fun x=>by
   unfold Bp
   rw [List.mem_filterMap,List.mem_map]
   constructor
   ·rintro ⟨c,c1,c2⟩
    cases c with
    | r k=>
     simp only [fB] at c2
     split at c2
     ·rename_i hv
      refine ⟨k,List.mem_filter.2 ⟨((tR Z).2.2 k).2 ((y4 _).1 c1).1,?_⟩,Option.some.inj c2⟩
      rw [(hY _).1 c1,hv]; rfl
     ·cases c2
    | m _=>cases c2
    | u _=>cases c2
   ·rintro ⟨m,m1,rfl⟩
    obtain ⟨m2,m3⟩:=List.mem_filter.1 m1
    rw [Bool.and_eq_true] at m3
    exact ⟨.r m,(hY _).2 m3.1,by simp only [fB]; rw [if_pos m3.2]⟩)
  (List.pairwise_map.2 (((tR Z).1.sublist List.filter_sublist).imp fun {a b} h=>dT (nq.2 h)))
 have mC:=zh (cf:=aN.cf) aN.AF (A:=Y.filterMap (fC wv who S)) (ys:=Bn wv who S Z w.aL since)
  (vU (fun a b x ha hb=>by
   cases a <;> cases b <;> simp only [fC] at ha hb <;> (try cases ha) <;> (try cases hb)
   split at ha
   ·split at hb
    ·simp only [Option.some.injEq] at ha hb; rw [← hb] at ha; simp only [fU.mk.injEq] at ha; rw [ha.1]
    ·cases hb
   ·cases ha) y2)
  (fun x=>by
   unfold Bn
   rw [List.mem_filterMap,List.mem_map]
   constructor
   ·rintro ⟨c,c1,c2⟩
    cases c with
    | u k=>
     simp only [fC] at c2
     split at c2
     ·rename_i hv
      refine ⟨k,List.mem_filter.2 ⟨((tD Z).2.2 k).2 ((y4 _).1 c1).1,?_⟩,Option.some.inj c2⟩
      rw [(hY _).1 c1,hv]; rfl
     ·cases c2
    | m _=>cases c2
    | r _=>cases c2
   ·rintro ⟨m,m1,rfl⟩
    obtain ⟨m2,m3⟩:=List.mem_filter.1 m1
    rw [Bool.and_eq_true] at m3
    exact ⟨.u m,(hY _).2 m3.1,by simp only [fC]; rw [if_pos m3.2]⟩)
  (List.pairwise_map.2 (((tD Z).1.sublist List.filter_sublist).imp fun {a b} h=>dT (nq.2 h)))
 have hat:iM.f s.fZ=some (w.aL+(Z.length:Int)):=by
  unfold iM.f ji.f
  have:=H.lg.at_
  simp [this]
 have sa:aW.f (Y.filterMap (fA wv who w.fM))=some ((oY wv who w.fM Z w.aL since).map KF):=by
  unfold aW.f an
  rw [if_pos ⟨Nat.le_trans (List.length_filterMap_le _ _) om,mA.1⟩,mA.2]
 have sb:aM.f (Y.filterMap (fB wv who U))=some (Bp wv who U Z w.aL since):=by
  unfold aM.f an
  rw [if_pos ⟨Nat.le_trans (List.length_filterMap_le _ _) om,mB.1⟩,mB.2]
 have sc:aN.f (Y.filterMap (fC wv who S))=some (Bn wv who S Z w.aL since):=by
  unfold aN.f an
  rw [if_pos ⟨Nat.le_trans (List.length_filterMap_le _ _) om,mC.1⟩,mC.2]
 obtain ⟨qa,qb,qc,qd,qe,qf,qg⟩:=q
 simp only [List.nil_append,Prod.mk.injEq] at q2
 obtain ⟨rfl,rfl,rfl⟩:=q2
 unfold sync_Make.f
 refine Ev.cf (dF om) (Ev.bind (Ev.of hat) (Ev.cf (dF om) (Ev.bind (Ev.of hat) ?_)))
 exact Ev.bind (Ev.bind y1 q1.diag) (Ev.bind (Ev.of sa) (Ev.bind (Ev.of sb) (Ev.bind (Ev.of sc) Ev.pure)))
end
section
variable {v:aJ} {wv:bA} {t:bS} {T:List (ak×Bool)} {p:b7} {P:List (ak×Int)} {s:Src} {w:dy} {Z:List Cx}
end
end Go.Proofs.YtfknmdelgepbjaaGreatDoor
