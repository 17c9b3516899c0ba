import Derived.Test.YtfknmdelgepbjaaGreatDoorZVC
import Derived.Test.YtfknmdelgepbjaaGreatDoorZMir
import Derived.Test.YtfknmdelgepbjaaGreatDoorConV
set_option linter.all false
set_option maxRecDepth 10000
namespace Go.Proofs.YtfknmdelgepbjaaGreatDoor
open Go Go.Sp
def ix:List Event→BA→Int
 | [],_=>-1
 | e::l,id=>if e.b9=id then 0 else if ix l id = -1 then -1 else ix l id+1
theorem Ga:∀ (l:List Event) (id:BA),FE l id (ix l id)
 | [],id=>.inl ⟨rfl,fun i hi=>by simp at hi⟩
 | e::l,id=>by
  unfold ix
  by_cases hb:e.b9=id
  ·rw [if_pos hb]
   exact .inr ⟨0,rfl,sM,by simpa [ev] using hb,fun i hi=>om⟩
  ·rw [if_neg hb]
   rcases Ga l id with ⟨q,h⟩ | ⟨j,q,h1,h2,h3⟩
   ·left
    rw [q]
    refine ⟨sM,fun i hi=>?_⟩
    cases i with
    | zero=>simpa [ev] using hb
    | succ i=>simpa [ev] using h i (by simpa using hi)
   ·right
    rw [q]
    refine ⟨j+1,by rw [if_neg om]; simp,by simpa using h1,by simpa [ev] using h2,fun i hi=>?_⟩
    cases i with
    | zero=>simpa [ev] using hb
    | succ i=>simpa [ev] using h3 i om
theorem mO (l:List Event) (id:BA):(ix l id = -1∧∀ i:Nat,i<l.length→(ev l i).b9≠id)∨∃ j:Nat,ix l id=(j:Int)∧j<l.length∧(ev l j).b9=id:=by
 rcases Ga l id with h | ⟨j,h1,h2,h3,_⟩
 ·exact .inl h
 ·exact .inr ⟨j,h1,h2,h3⟩
theorem rB {d:aF} (id:BA) (hl:d.fL.length≤maxLen):Ev (fun k=>eC.f k d id) (ix d.fL id):=at_ev hl (Ga _ _)
def code (d:aF) (e:Event):Int:=
 if o4 e=false then 1 else if e.aa≠d.aa then 1 else if 0≤ix d.fL e.b9 then 9
 else if gS (fun i=>decide (0≤ix d.fL (par e i))) 0 e.ae.length=false then 4
 else if e.ag=⟨#[]⟩ then 0 else if ix d.fL e.ag<0 then 4
 else if (ev d.fL (ix d.fL e.ag).toNat).ag≠⟨#[]⟩ then 7 else if (ev d.fL (ix d.fL e.ag).toNat).bL≠0 then 7 else 0
theorem yR {d:aF} {e:Event} (he:Event.ok e) (hl:d.fL.length≤100000):∃ r:(Int×Bool) ⊕ (aF×Int),El (fun k j=>dP.l0 k d e j 0) r∧(gS (fun i=>decide (0≤ix d.fL (par e i))) 0 e.ae.length=true→∃ x,r = .inl x)∧(gS (fun i=>decide (0≤ix d.fL (par e i))) 0 e.ae.length=false→r = .inr (d,4)):=by
 have hn:e.ae.length≤9223372036854775807:=he.2.2.1.1
 have hl2:d.fL.length≤maxLen:=by show _≤9223372036854775807; omega
 obtain ⟨r,h1,h2⟩:=Ca (F:=fun k j x=>dP.l0 k d e j (x:Int)) (p:=fun i=>decide (0≤ix d.fL (par e i))) (n:=e.ae.length) (fun r b=>(b=true→∃ x,r = .inl x)∧(b=false→r = .inr (d,4))) (by
  refine ⟨.inl ((e.ae.length:Int),false),?_,fun _=>⟨_,rfl⟩,fun h=>by cases h⟩
  refine El.step (fun _ _=>by rw [dP.l0]) ?_
  exact El.cf sM (by simpa using El.pure)) (by
  intro x hx hp
  refine ⟨.inr (d,4),?_,fun h=>(by cases h),fun _=>rfl⟩
  refine El.step (fun _ _=>by rw [dP.l0]) ?_
  refine El.ct (by simpa using hx) (El.aq ⟨om,om⟩ ?_)
  rw [lJ hx]
  refine El.bind (rB _ hl2).el (El.ct ?_ El.pure)
  simp at hp ⊢; omega) (by
  intro x r hx hp ih
  refine El.step (fun _ _=>by rw [dP.l0]) ?_
  refine El.ct (by simpa using hx) (El.aq ⟨om,om⟩ ?_)
  rw [lJ hx]
  refine El.bind (rB _ hl2).el (El.cf ?_ ?_)
  ·simp at hp ⊢; omega
  ·rw [aJ (x:=(x:Int)+1) om om]; exact ih) _ 0 rfl om
 exact ⟨r,h1,h2.1,h2.2⟩
theorem Br {d:aF} {e:Event} (he:Event.ok e) (hl:d.fL.length≤100000):Ev (fun k=>dP.f k d e) (if code d e=0 then ((⟨d.aa,d.fL++[e]⟩:aF),0) else (d,code d e)):=by
 have hl2:d.fL.length≤maxLen:=by show _≤9223372036854775807; omega
 obtain ⟨r,h1,h2,h3⟩:=yR he hl
 unfold dP.f code
 refine Ev.bind (may2 he) ?_
 cases hm:o4 e with
 | false=>exact Ev.ct rfl (Ev.of rfl)
 | true=>
  refine Ev.cf rfl ?_
  simp only [Bool.true_eq_false,if_false]
  by_cases hr:e.aa=d.aa
  ·refine Ev.cf (by simp [hr]) (Ev.bind (rB _ hl2) ?_)
   rw [if_neg (Classical.not_not.2 hr)]
   by_cases h9:0≤ix d.fL e.b9
   ·rw [if_pos h9]
    exact Ev.ct (dT h9) (Ev.of rfl)
   ·rw [if_neg h9]
    refine Ev.cf (dF h9) (Ev.bind h1.diag ?_)
    cases ha:gS (fun i=>decide (0≤ix d.fL (par e i))) 0 e.ae.length with
    | false=>rw [h3 ha]; exact Ev.of rfl
    | true=>
     obtain ⟨x,rfl⟩:=h2 ha
     simp only [fall,Bool.true_eq_false,if_false]
     have fin:Ev (fun k=>aq (([]:List Event).length+d.fL.length≤9223372036854775807∧(([]:List Event).length+d.fL.length)*96≤140737488355328) (aq ((([]:List Event)++d.fL).length+([e]:List Event).length≤9223372036854775807∧((([]:List Event)++d.fL).length+([e]:List Event).length)*96≤140737488355328) (some ((⟨d.aa,(([]:List Event)++d.fL)++([e]:List Event)⟩:aF),(0:Int))))) ((⟨d.aa,d.fL++[e]⟩:aF),0):=
      Ev.aq ⟨by simp; omega,by simp; omega⟩ (Ev.aq ⟨by simp; omega,by simp; omega⟩ (Ev.of sM))
     by_cases ht:e.ag=⟨#[]⟩
     ·rw [if_pos ht]
      refine Ev.bind (a:=.inl ()) (Ev.cf (by simp [ht]) Ev.pure) ?_
      simpa only [fall,if_true] using fin
     ·rw [if_neg ht]
      rcases mO d.fL e.ag with ⟨q,_⟩ | ⟨j,q,hj,_⟩
      ·rw [if_pos (show ix d.fL e.ag<0 by omega)]
       refine Ev.bind (a:=.inr (d,4)) (Ev.ct (by simp [ht]) (Ev.bind (rB _ hl2) (Ev.ct (dT om) Ev.pure))) (Ev.of rfl)
      ·rw [if_neg (show ¬ ix d.fL e.ag<0 by omega),q,Int.toNat_natCast]
       have hh:∀ {y:Unit ⊕ (aF×Int)},Ev (fun k=>aq ((0:Int)≤(j:Int)∧(j:Int)<(d.fL.length:Int)) (cond (!decide (((Event.K.at d.fL (j:Int)).ag)=eE)) (some (.inr (d,(7:Int)))) (aq ((0:Int)≤(j:Int)∧(j:Int)<(d.fL.length:Int)) (cond (((Event.K.at d.fL (j:Int)).bL) != 0) (some (.inr (d,(7:Int)))) (some (.inl ())))))) y→Ev (fun k=>cond (!decide (e.ag=eE)) ((eC.f k d e.ag).bind fun t206=>cond (decide (t206<0)) (some (.inr (d,4))) (aq ((0:Int)≤t206∧t206<(d.fL.length:Int)) (cond (!decide (((Event.K.at d.fL t206).ag)=eE)) (some (.inr (d,7))) (aq ((0:Int)≤t206∧t206<(d.fL.length:Int)) (cond (((Event.K.at d.fL t206).bL) != 0) (some (.inr (d,7))) (some (.inl ()))))))) (some (.inl ()))) y:=fun h=>Ev.ct (by simp [ht]) (Ev.bind (a:=(j:Int)) (by rw [← q]; exact rB _ hl2) (Ev.cf (dF om) h))
       by_cases h7:(ev d.fL j).ag=⟨#[]⟩
       ·rw [if_neg (Classical.not_not.2 h7)]
        by_cases h8:(ev d.fL j).bL=0
        ·rw [if_neg (Classical.not_not.2 h8)]
         refine Ev.bind (a:=.inl ()) (hh (Ev.aq ⟨om,om⟩ (Ev.cf (by rw [jU hj]; simp [h7]) (Ev.aq ⟨om,om⟩ (Ev.cf (by rw [jU hj]; simp [h8]) Ev.pure))))) ?_
         simpa only [fall,if_true] using fin
        ·rw [if_pos h8]
         exact Ev.bind (a:=.inr (d,7)) (hh (Ev.aq ⟨om,om⟩ (Ev.cf (by rw [jU hj]; simp [h7]) (Ev.aq ⟨om,om⟩ (Ev.ct (by rw [jU hj]; simpa using h8) Ev.pure))))) (Ev.of rfl)
       ·rw [if_pos h7]
        exact Ev.bind (a:=.inr (d,7)) (hh (Ev.aq ⟨om,om⟩ (Ev.ct (by rw [jU hj]; simpa using h7) Ev.pure))) (Ev.of rfl)
  ·rw [if_pos hr]
   exact Ev.ct (by simp [hr]) (Ev.of rfl)
structure Rel (m:bf) (d:aF):Prop where
 room:m.cM=d.aa
 uniq:∀ i j,i<d.fL.length→j<d.fL.length→(ev d.fL i).b9=(ev d.fL j).b9→i=j
 KC:∀ i,i<d.fL.length→∃ nd,mget m.ar (ev d.fL i).b9=some nd∧nd.fe=ev d.fL i
 Jx:∀ id,(∀ i,i<d.fL.length→(ev d.fL i).b9≠id)→mget m.ar id=none
theorem ri (room:BA):Rel ⟨room,[]⟩ ⟨room,[]⟩:=⟨rfl,fun i j h=>by simp at h,fun i h=>by simp at h,fun id _=>rfl⟩
theorem sq {m:bf} {d:aF} (hr:Rel m d) (id:BA):(ix d.fL id = -1∧mget m.ar id=none)∨∃ j:Nat,ix d.fL id=(j:Int)∧j<d.fL.length∧(ev d.fL j).b9=id∧∃ nd,mget m.ar id=some nd∧nd.fe=ev d.fL j:=by
 rcases mO d.fL id with ⟨q,h⟩ | ⟨j,q,hj,he⟩
 ·exact .inl ⟨q,hr.Jx id h⟩
 ·have:=hr.KC j hj
  rw [he] at this
  exact .inr ⟨j,q,hj,he,this⟩
theorem xC {m:bf} {d:aF} (hr:Rel m d) (id:BA):(mget m.ar id).isNone=decide (ix d.fL id<0):=by
 rcases sq hr id with ⟨q,h⟩ | ⟨j,q,hj,he,nd,h,_⟩
 ·rw [q,h]; rfl
 ·rw [q,h,dF om]; rfl
theorem zj {m:bf} {d:aF} {e:Event} (hr:Rel m d) (he:Event.ok e):Ev (fun k=>cB.f k e.ae (fun a0_=>eQ.f a0_ m)) (!gS (fun i=>decide (0≤ix d.fL (par e i))) 0 e.ae.length):=by
 have hn:e.ae.length≤9223372036854775807:=he.2.2.1.1
 have hf:∀ x:Nat,x<e.ae.length→eQ.f (aC.at e.ae (x:Int)) m=some (!decide (0≤ix d.fL (par e x))):=fun x hx=>by
  unfold eQ.f ew.f
  rw [lJ hx,xC hr]
  simp only [Option.bind_some,Bool.not_not]
  congr 1
  rw [Bool.eq_iff_iff]; simp
 obtain ⟨r,h1,h2⟩:=Ca (F:=fun k j x=>aV.l0 k e.ae (fun a0_=>eQ.f a0_ m) j (x:Int)) (p:=fun i=>decide (0≤ix d.fL (par e i))) (n:=e.ae.length) (fun r b=>(b=true→∃ x,r = .inl x)∧(b=false→∃ x:Nat,r = .inr (x:Int))) (by
  refine ⟨.inl ((e.ae.length:Int),false),?_,fun _=>⟨_,rfl⟩,fun h=>by cases h⟩
  refine El.step (fun _ _=>by rw [aV.l0]) ?_
  exact El.cf sM (by simpa using El.pure)) (by
  intro x hx hp
  refine ⟨.inr (x:Int),?_,fun h=>(by cases h),fun _=>⟨x,rfl⟩⟩
  refine El.step (fun _ _=>by rw [aV.l0]) ?_
  refine El.ct (by simpa using hx) (El.aq ⟨om,om⟩ (El.bind (Ev.of (hf x hx)).el (El.ct ?_ El.pure)))
  rw [hp]; rfl) (by
  intro x r hx hp ih
  refine El.step (fun _ _=>by rw [aV.l0]) ?_
  refine El.ct (by simpa using hx) (El.aq ⟨om,om⟩ (El.bind (Ev.of (hf x hx)).el (El.cf ?_ ?_)))
  ·rw [hp]; rfl
  ·rw [aJ (x:=(x:Int)+1) om om]; exact ih) _ 0 rfl om
 unfold cB.f aV.f
 cases ha:gS (fun i=>decide (0≤ix d.fL (par e i))) 0 e.ae.length with
 | true=>
  obtain ⟨x,rfl⟩:=h2.1 ha
  exact Ev.bind (Ev.bind h1.diag (Ev.of rfl)) (Ev.of rfl)
 | false=>
  obtain ⟨x,rfl⟩:=h2.2 ha
  exact Ev.bind (Ev.bind h1.diag (Ev.of rfl)) (Ev.of sM)
theorem nr {l:List Event} {e:Event} {i:Nat} (hi:i<l.length):ev (l++[e]) i=ev l i:=by
 unfold ev
 rw [gD,gD,List.getElem?_append_left hi]
theorem qQ {l:List Event} {e:Event}:ev (l++[e]) l.length=e:=by
 unfold ev
 rw [gD,List.getElem?_append_right (Nat.le_refl _)]; simp
def yS (x:BA×aT):BA×(Event×Int):=(x.1,(x.2.fe,x.2.cI))
def T (m:bf):List (BA×(Event×Int)):=m.ar.map yS
def qT (t:List (BA×(Event×Int))) (p:BA):Int:=((mget t p).map (·.2)).getD 0
def vH (t:List (BA×(Event×Int))) (ps:List BA) (d:Int):Int:=ps.foldl (fun d p=>max d (qT t p+1)) d
def Low (m:bf):Prop:=∀ x∈m.ar,0≤x.2.cI∧x.2.cI≤1000000
theorem zt {κ α β:Type} [DecidableEq κ] (f:α→β) (k:κ):∀ m:List (κ×α),mget (m.map fun x=>(x.1,f x.2)) k=(mget m k).map f
 | []=>rfl
 | e::m=>by
  simp only [List.map_cons,mget]
  split
  ·rfl
  ·exact zt f k m
theorem Ad (m:bf) (k:BA):mget (T m) k=(mget m.ar k).map fun nd=>(nd.fe,nd.cI):=zt (fun nd:aT=>(nd.fe,nd.cI)) k m.ar
theorem Il {m m':bf} (h:T m'=T m) (id:BA):(mget m'.ar id).map (·.fe)=(mget m.ar id).map (·.fe):=by
 have h1:=Ad m id
 have h2:=Ad m' id
 rw [h,h1] at h2
 have:=congrArg (Option.map Prod.fst) h2
 simp only [Option.map_map] at this
 exact this.symm
theorem tW {κ α:Type} [DecidableEq κ] {k:κ} {a:α}:∀ {m:List (κ×α)},mget m k=none→mput m k a=m++[(k,a)]
 | [],_=>rfl
 | e::m,h=>by
  simp only [mget] at h
  split at h
  ·cases h
  ·rename_i hn
   simp only [mput,if_neg hn,List.cons_append,tW h]
theorem uY {κ α β:Type} [DecidableEq κ] (f:κ×α→β) {k:κ} {a a':α}:∀ {m:List (κ×α)},mget m k=some a→f (k,a')=f (k,a)→(mput m k a').map f=m.map f
 | [],h,_=>by cases h
 | e::m,h,hf=>by
  simp only [mget] at h
  simp only [mput]
  split
  ·rename_i hk
   rw [if_pos hk] at h
   cases h
   rw [List.map_cons,List.map_cons,hf,← hk]
  ·rename_i hn
   rw [if_neg hn] at h
   rw [List.map_cons,List.map_cons,uY f h hf]
theorem ru {κ α:Type} [DecidableEq κ] {k:κ} {a:α}:∀ {m:List (κ×α)},mget m k=some a→(k,a)∈m
 | [],h=>by cases h
 | e::m,h=>by
  simp only [mget] at h
  split at h
  ·rename_i hk; cases h; rw [← hk]; exact List.mem_cons_self ..
  ·exact List.mem_cons_of_mem _ (ru h)
theorem low_T {m m':bf} (h:T m'=T m) (hb:Low m):Low m':=fun x hx=>by
 have h1:yS x∈T m':=List.mem_map.2 ⟨x,hx,rfl⟩
 rw [h] at h1
 obtain ⟨y,hy,e⟩:=List.mem_map.1 h1
 have:=hb y hy
 simp only [yS,Prod.mk.injEq] at e
 rw [← e.2.2]; exact this
theorem mark2 {e:Event} (he:Event.ok e):∀ n x,e.ae.length-x=n→x≤e.ae.length→∀ (dep:Int) (m:bf),(∀ i,i<e.ae.length→(mget m.ar (par e i)).isSome=true)→Low m→
  ∃ r:Int×Bool×Int×bf,El (fun k j=>dag_Dag_Add.l0 k e j (x:Int) dep m) r∧r.2.2.2.cM=m.cM∧r.2.2.1=vH (T m) (e.ae.drop x) dep∧T r.2.2.2=T m:=by
 have hn:e.ae.length≤9223372036854775807:=he.2.2.1.1
 intro n
 induction n with
 | zero=>
  intro x hd hx dep m hm hb
  obtain rfl:x=e.ae.length:=om
  refine ⟨((e.ae.length:Int),false,dep,m),?_,rfl,by rw [List.drop_length]; rfl,rfl⟩
  refine El.step (fun _ _=>by rw [dag_Dag_Add.l0]) ?_
  exact El.cf sM (by simpa using El.pure)
 | succ n ih=>
  intro x hd hx dep m hm hb
  have hx2:x<e.ae.length:=om
  obtain ⟨nd,hnd⟩:=Option.isSome_iff_exists.1 (hm x hx2)
  have hg:(mget m.ar (par e x)).getD default=nd:=by rw [hnd]; rfl
  have hl:0≤nd.cI∧nd.cI≤1000000:=hb _ (ru hnd)
  have key:T (⟨m.cM,mput m.ar (par e x) (⟨nd.fe,nd.cI,true⟩:aT)⟩:bf)=T m:=uY yS hnd rfl
  have hsome:∀ i,i<e.ae.length→(mget (mput m.ar (par e x) (⟨nd.fe,nd.cI,true⟩:aT)) (par e i)).isSome=true:=fun i hi=>by
   have h4:=hm i hi
   rw [fz]
   split
   ·rfl
   ·exact h4
  obtain ⟨r,h1,h2,h3,h4⟩:=ih (x+1) om om (max dep (ax (nd.cI+1))) (⟨m.cM,mput m.ar (par e x) (⟨nd.fe,nd.cI,true⟩:aT)⟩:bf) hsome (low_T key hb)
  refine ⟨r,?_,h2,?_,h4.trans key⟩
  ·refine El.step (fun _ _=>by rw [dag_Dag_Add.l0]) ?_
   refine El.ct (by simpa using hx2) (El.aq ⟨om,om⟩ ?_)
   rw [lJ hx2,hg]
   refine El.aq (hm x hx2) ?_
   rw [aJ (x:=(x:Int)+1) om om]
   exact h1
  ·have hdr:e.ae.drop x=par e x::e.ae.drop (x+1):=by
    rw [List.drop_eq_getElem_cons hx2]; unfold par; rw [gD,gE hx2]; rfl
   have hd2:qT (T m) (par e x)=nd.cI:=by unfold qT; rw [Ad,hnd]; rfl
   rw [h3,key,hdr,aJ (x:=nd.cI+1) om om]
   show _=vH (T m) (e.ae.drop (x+1)) (max dep (qT (T m) (par e x)+1))
   rw [hd2]
theorem Hv {m:bf} {d:aF} {e:Event} (hr:Rel m d) (he:Event.ok e) (hb:Low m):∃ m',Ev (fun k=>dag_Dag_Add.f k m e) (code d e,m')∧(code d e≠0→m'=m)∧(code d e=0→Rel m' ⟨d.aa,d.fL++[e]⟩∧T m'=T m++[(e.b9,(e,vH (T m) e.ae 0))]∧∃ r,El (fun k j=>dag_Dag_Add.l0 k e j ((0:Nat):Int) 0 m) r∧m'.ar=mput r.2.2.2.ar e.b9 (⟨e,r.2.2.1,false⟩:aT)):=by
 unfold dag_Dag_Add.f code
 cases hm:o4 e with
 | false=>
  exact ⟨m,Ev.bind (GC he) (Ev.ct (by rw [hm]; rfl) (Ev.of rfl)),fun _=>rfl,fun h=>(by cases h)⟩
 | true=>
  simp only [Bool.true_eq_false,if_false]
  by_cases hroom:e.aa=d.aa
  ·rw [if_neg (Classical.not_not.2 hroom)]
   by_cases h9:0≤ix d.fL e.b9
   ·rw [if_pos h9]
    refine ⟨m,Ev.bind (GC he) (Ev.cf (by rw [hm]; rfl) (Ev.cf (by rw [hr.room]; simp [hroom]) (Ev.bind (Ev.of rfl) (Ev.ct ?_ (Ev.of rfl))))),fun _=>rfl,fun h=>(by cases h)⟩
    rw [xC hr,dF om]; rfl
   ·rw [if_neg h9]
    have pre:∀ {y:Int×bf} {G:Nat→Option (Int×bf)},(gS (fun i=>decide (0≤ix d.fL (par e i))) 0 e.ae.length=true→Ev G y)→(gS (fun i=>decide (0≤ix d.fL (par e i))) 0 e.ae.length=false→y=(4,m))→Ev (fun k=>(dA.f k e).bind fun t497=>cond (!t497) (some (1,m)) (cond (!decide (e.aa=m.cM)) (some (1,m)) ((ew.f m e.b9).bind fun t502=>cond t502 (some (9,m)) ((cB.f k e.ae (fun a0_=>eQ.f a0_ m)).bind fun t505=>cond t505 (some (4,m)) (G k))))) y:=fun {y G} h h0=>by
     refine Ev.bind (GC he) (Ev.cf (by rw [hm]; rfl) (Ev.cf (by rw [hr.room]; simp [hroom]) (Ev.bind (Ev.of rfl) (Ev.cf ?_ (Ev.bind (zj hr he) ?_)))))
     ·rw [xC hr,dT om]; rfl
     ·cases ha:gS (fun i=>decide (0≤ix d.fL (par e i))) 0 e.ae.length with
      | true=>exact Ev.cf rfl (h ha)
      | false=>rw [h0 ha]; exact Ev.ct rfl (Ev.of rfl)
    cases ha:gS (fun i=>decide (0≤ix d.fL (par e i))) 0 e.ae.length with
    | false=>exact ⟨m,pre (fun h'=>absurd (ha.symm.trans h') dc) (fun _=>rfl),fun _=>rfl,fun h=>(by cases h)⟩
    | true=>
     simp only [Bool.true_eq_false,if_false]
     have hall:∀ i,i<e.ae.length→(mget m.ar (par e i)).isSome=true:=fun i hi=>by
      have h1:=kc.1 ha i om hi
      rcases sq hr (par e i) with ⟨q,_⟩ | ⟨j,q,_,_,nd,h,_⟩
      ·simp [q] at h1
      ·rw [h]; rfl
     obtain ⟨r,l1,l2,l4,l5⟩:=mark2 he _ 0 rfl om 0 m hall hb
     have l3:=Il l5
     have hnew:∀ i,i<d.fL.length→(ev d.fL i).b9≠e.b9:=fun i hi=>by
      rcases mO d.fL e.b9 with ⟨_,h⟩ | ⟨j,q,_⟩
      ·exact h i hi
      ·omega
     have own:iA.f e=some e:=by
      have h4:e.ae.length≤4:=by
       have h5:=hm
       unfold o4 at h5; simp at h5; exact h5.2.2.2.1
      unfold iA.f dL.f
      simp only [aq]
      rw [if_pos ⟨om,om⟩]; rfl
     have fin:Ev (fun k=>(iA.f e).bind fun t509=>(dag_Dag_Add.l0 k e k 0 0 m).bind fun (p512:Int×Bool×Int×bf)=>some ((0:Int),(⟨p512.2.2.2.cM,mput p512.2.2.2.ar e.b9 (⟨t509,p512.2.2.1,false⟩:aT)⟩:bf))) (0,(⟨r.2.2.2.cM,mput r.2.2.2.ar e.b9 (⟨e,r.2.2.1,false⟩:aT)⟩:bf)):=
      Ev.bind (Ev.of own) (Ev.bind l1.diag Ev.pure)
     have rel:Rel (⟨r.2.2.2.cM,mput r.2.2.2.ar e.b9 (⟨e,r.2.2.1,false⟩:aT)⟩:bf) ⟨d.aa,d.fL++[e]⟩:=by
      refine ⟨l2.trans hr.room,fun i j hi hj hij=>?_,fun i hi=>?_,fun id hid=>?_⟩
      ·simp only [List.length_append,List.length_singleton] at hi hj
       rcases Nat.lt_or_ge i d.fL.length with h1 | h1 <;> rcases Nat.lt_or_ge j d.fL.length with h2 | h2
       ·rw [nr h1,nr h2] at hij; exact hr.uniq i j h1 h2 hij
       ·obtain rfl:j=d.fL.length:=om
        rw [nr h1,qQ] at hij; exact absurd hij (hnew i h1)
       ·obtain rfl:i=d.fL.length:=om
        rw [qQ,nr h2] at hij; exact absurd hij.symm (hnew j h2)
       ·omega
      ·simp only [List.length_append,List.length_singleton] at hi
       rcases Nat.lt_or_ge i d.fL.length with h1 | h1
       ·rw [nr h1]
        obtain ⟨nd,g1,g2⟩:=hr.KC i h1
        have:=l3 (ev d.fL i).b9
        rw [g1] at this
        simp only [fz,if_neg (fun h=>hnew i h1 h.symm:¬ e.b9=(ev d.fL i).b9)]
        cases h5:mget r.2.2.2.ar (ev d.fL i).b9 with
        | none=>rw [h5] at this; cases this
        | some v=>rw [h5] at this; exact ⟨v,rfl,(Option.some.inj this).trans g2⟩
       ·obtain rfl:i=d.fL.length:=om
        rw [qQ]
        exact ⟨⟨e,r.2.2.1,false⟩,by simp only [fz,if_true],rfl⟩
      ·have h1:e.b9≠id:=by have:=hid d.fL.length sM; rwa [qQ] at this
       simp only [fz,if_neg h1]
       have h2:=hr.Jx id fun i hi=>by have:=hid i (by simp; omega); rwa [nr hi] at this
       have:=l3 id
       rw [h2] at this
       cases h5:mget r.2.2.2.ar id with
       | none=>rfl
       | some v=>rw [h5] at this; cases this
     have relT:T (⟨r.2.2.2.cM,mput r.2.2.2.ar e.b9 (⟨e,r.2.2.1,false⟩:aT)⟩:bf)=T m++[(e.b9,(e,vH (T m) e.ae 0))]:=by
      have hn:mget r.2.2.2.ar e.b9=none:=by
       have h2:=hr.Jx e.b9 hnew
       have:=l3 e.b9
       rw [h2] at this
       cases h5:mget r.2.2.2.ar e.b9 with
       | none=>rfl
       | some v=>rw [h5] at this; cases this
      show (mput r.2.2.2.ar e.b9 (⟨e,r.2.2.1,false⟩:aT)).map yS=_
      rw [tW hn,List.map_append]
      show T r.2.2.2++[(e.b9,(e,r.2.2.1))]=_
      rw [l5,l4,List.drop_zero]
     by_cases ht:e.ag=⟨#[]⟩
     ·rw [if_pos ht]
      refine ⟨_,pre (fun _=>Ev.bind (a:=.inl ()) (Ev.cf (by simp [ht]) Ev.pure) ?_) (fun h'=>absurd (ha.symm.trans h') dc),fun h=>absurd rfl h,fun _=>⟨rel,relT,r,l1,rfl⟩⟩
      simpa only [fall] using fin
     ·rw [if_neg ht]
      rcases sq hr e.ag with ⟨q,h⟩ | ⟨j,q,hj,_,nd,h,hnd⟩
      ·rw [if_pos (show ix d.fL e.ag<0 by omega)]
       refine ⟨m,pre (fun _=>Ev.bind (a:=.inr (4,m)) (Ev.ct (by simp [ht]) (Ev.ct (by rw [h]; rfl) Ev.pure)) (Ev.eq Ev.pure fun _=>rfl)) (fun h'=>absurd (ha.symm.trans h') dc),fun _=>rfl,fun h=>(by cases h)⟩
      ·rw [if_neg (show ¬ ix d.fL e.ag<0 by omega),q,Int.toNat_natCast,← hnd]
       by_cases h7:nd.fe.ag=⟨#[]⟩
       ·rw [if_neg (Classical.not_not.2 h7)]
        by_cases h8:nd.fe.bL=0
        ·rw [if_neg (Classical.not_not.2 h8)]
         refine ⟨_,pre (fun _=>Ev.bind (a:=.inl ()) (Ev.ct (by simp [ht]) (Ev.cf (by rw [h]; rfl) (Ev.aq (by rw [h]; rfl) (Ev.cf (by rw [h]; simp [h7]) (Ev.cf (by rw [h]; simp [h8]) Ev.pure))))) ?_) (fun h'=>absurd (ha.symm.trans h') dc),fun h=>absurd rfl h,fun _=>⟨rel,relT,r,l1,rfl⟩⟩
         simpa only [fall] using fin
        ·rw [if_pos h8]
         refine ⟨m,pre (fun _=>Ev.bind (a:=.inr (7,m)) (Ev.ct (by simp [ht]) (Ev.cf (by rw [h]; rfl) (Ev.aq (by rw [h]; rfl) (Ev.cf (by rw [h]; simp [h7]) (Ev.ct (by rw [h]; simpa using h8) Ev.pure))))) (Ev.eq Ev.pure fun _=>rfl)) (fun h'=>absurd (ha.symm.trans h') dc),fun _=>rfl,fun h=>(by cases h)⟩
       ·rw [if_pos h7]
        refine ⟨m,pre (fun _=>Ev.bind (a:=.inr (7,m)) (Ev.ct (by simp [ht]) (Ev.cf (by rw [h]; rfl) (Ev.aq (by rw [h]; rfl) (Ev.ct (by rw [h]; simpa using h7) Ev.pure)))) (Ev.eq Ev.pure fun _=>rfl)) (fun h'=>absurd (ha.symm.trans h') dc),fun _=>rfl,fun h=>(by cases h)⟩
  ·rw [if_pos hroom]
   exact ⟨m,Ev.bind (GC he) (Ev.cf (by rw [hm]; rfl) (Ev.ct (by rw [hr.room]; simp [hroom]) (Ev.of rfl))),fun _=>rfl,fun h=>(by cases h)⟩
abbrev oc:=List (BA×(Event×Int))
theorem rj {α:Type} {P:List α→Prop} (h0:P []) (h1:∀ l e,P l→P (l++[e])) (l:List α):P l:=by
 have:∀ r:List α,P r.reverse:=fun r=>by
  induction r with
  | nil=>exact h0
  | cons e r ih=>rw [List.reverse_cons]; exact h1 _ _ ih
 rw [← List.reverse_reverse l]; exact this _
def FL (l:List BA) (s:BA):Bool:=l.any fun x=>decide (x=s)
theorem BM {l:List BA} {s:BA}:FL l s=true↔s∈l:=by simp [FL]
theorem J4 {l:List BA} {s:BA} (h:s ∉ l):FL l s=false:=by
 cases e:FL l s with
 | false=>rfl
 | true=>exact absurd (BM.1 e) h
def sT (L:List Event) (id:BA):Bool:=L.any fun e=>FL e.ae id
def tstep (t:oc) (e:Event):oc:=t++[(e.b9,(e,vH t e.ae 0))]
def tb (L:List Event):oc:=L.foldl tstep []
theorem qP (L:List Event) (e:Event):tb (L++[e])=tb L++[(e.b9,(e,vH (tb L) e.ae 0))]:=by unfold tb; rw [List.foldl_append]; rfl
theorem yu (L:List Event):(tb L).map (·.1)=L.map (·.b9):=by
 induction L using rj with
 | h0=>rfl
 | h1 l e ih=>rw [qP,List.map_append,List.map_append,ih]; rfl
theorem A0 (L:List Event):(tb L).map (·.2.1)=L:=by
 induction L using rj with
 | h0=>rfl
 | h1 l e ih=>rw [qP,List.map_append,ih]; rfl
theorem Gc (L:List Event):(tb L).length=L.length:=by
 have:=congrArg List.length (A0 L); rwa [List.length_map] at this
theorem FX (A B:List Event):∃ Z,tb (A++B)=tb A++Z:=by
 induction B using rj with
 | h0=>exact ⟨[],sM⟩
 | h1 l e ih=>
  obtain ⟨Z,h⟩:=ih
  exact ⟨Z++[(e.b9,(e,vH (tb (A++l)) e.ae 0))],by rw [← List.append_assoc,qP,h,List.append_assoc]⟩
theorem I1 {t:oc} {B:Int} (hB:0≤B) (h:∀ x∈t,0≤x.2.2∧x.2.2≤B) (p:BA):0≤qT t p∧qT t p≤B:=by
 unfold qT
 cases e:mget t p with
 | none=>exact ⟨Int.le_refl _,hB⟩
 | some v=>exact h _ (ru e)
theorem IV {t:oc} {B:Int} (hB:0≤B) (h:∀ x∈t,0≤x.2.2∧x.2.2≤B):∀ (ps:List BA) (d:Int),0≤d∧d≤B+1→0≤vH t ps d∧vH t ps d≤B+1
 | [],d,hd=>hd
 | p::ps,d,hd=>by
  have:=I1 hB h p
  exact IV hB h ps (max d (qT t p+1)) ⟨om,om⟩
theorem tb_b (L:List Event):∀ x∈tb L,0≤x.2.2∧x.2.2≤(L.length:Int):=by
 induction L using rj with
 | h0=>intro x hx; cases hx
 | h1 l e ih=>
  intro x hx
  rw [qP] at hx
  rw [List.length_append,List.length_singleton]
  rcases List.mem_append.1 hx with h | h
  ·have:=ih x h; omega
  ·rw [List.mem_singleton.1 h]
   have:=IV (t:=tb l) (B:=(l.length:Int)) om ih e.ae 0 om
   show 0≤vH _ _ _∧vH _ _ _≤_
   omega
theorem dpt_l (L:List Event) (p:BA):0≤qT (tb L) p∧qT (tb L) p≤(L.length:Int):=I1 om (tb_b L) p
theorem Kp {m:bf} {L:List Event} (h:T m=tb L) (hl:L.length≤100000):Low m:=fun x hx=>by
 have h1:yS x∈T m:=List.mem_map.2 ⟨x,hx,rfl⟩
 rw [h] at h1
 have:=tb_b L _ h1
 show 0≤(yS x).2.2∧(yS x).2.2≤_
 omega
structure Good (L:List Event):Prop where
 uq:(L.map (·.b9)).Nodup
 cl:∀ i,i<L.length→∀ p∈(ev L i).ae,∃ j,j<i∧(ev L j).b9=p
theorem vC {L:List Event} {i:Nat} (hi:i<L.length):L[i]? = some (ev L i):=by
 unfold ev; rw [gD,gE hi]; rfl
theorem EA {L:List Event} {i:Nat} (hi:i<L.length):ev L i∈L:=List.mem_of_getElem? (vC hi)
theorem sr {L:List Event} {e:Event} (h:e∈L):∃ i,i<L.length∧ev L i=e:=by
 obtain ⟨i,hi,rfl⟩:=List.mem_iff_getElem.1 h
 exact ⟨i,hi,by have:=vC hi; rw [gE hi] at this; exact (Option.some.inj this).symm⟩
theorem Hb {L:List Event} {i:Nat} (hi:i<L.length):L.take (i+1)=L.take i++[ev L i]:=by
 rw [List.take_add_one,vC hi]; rfl
theorem yq {κ α:Type} [DecidableEq κ]:∀ {m:List (κ×α)} {i:Nat} {k:κ} {a:α},(m.map (·.1)).Nodup→m[i]? = some (k,a)→mget m k=some a
 | [],_,_,_,_,h=>by simp at h
 | e::m,0,k,a,_,h=>by
  simp only [List.getElem?_cons_zero,Option.some.injEq] at h
  subst h; simp [mget]
 | e::m,i+1,k,a,hn,h=>by
  rw [List.map_cons,List.nodup_cons] at hn
  simp only [List.getElem?_cons_succ] at h
  have:¬ e.1=k:=fun hk=>hn.1 (by rw [hk]; exact List.mem_map.2 ⟨(k,a),List.mem_of_getElem? h,rfl⟩)
  simp only [mget,if_neg this]
  exact yq hn.2 h
theorem zo {κ α:Type} [DecidableEq κ] {k:κ}:∀ {A B:List (κ×α)},(mget A k).isSome=true→mget (A++B) k=mget A k
 | [],_,h=>by cases h
 | e::A,B,h=>by
  simp only [mget] at h
  simp only [List.cons_append,mget]
  split
  ·rfl
  ·rename_i hn; rw [if_neg hn] at h; exact zo h
theorem tb_at {L:List Event} {i:Nat} (hi:i<L.length):(tb L)[i]? = some ((ev L i).b9,(ev L i,vH (tb (L.take i)) (ev L i).ae 0)):=by
 obtain ⟨Z,h⟩:=FX (L.take (i+1)) (L.drop (i+1))
 rw [List.take_append_drop,Hb hi,qP] at h
 have hl:(tb (L.take i)).length=i:=by rw [Gc,List.length_take]; omega
 rw [h,List.append_assoc,List.getElem?_append_right om,hl,Nat.sub_self]; rfl
theorem tD {L:List Event} (h:Good L):((tb L).map (·.1)).Nodup:=by rw [yu]; exact h.uq
theorem DX {L:List Event} (h:Good L) {i:Nat} (hi:i<L.length):mget (tb L) (ev L i).b9=some (ev L i,vH (tb (L.take i)) (ev L i).ae 0):=yq (tD h) (tb_at hi)
theorem wj {t t':oc}:∀ (ps:List BA) (d:Int),(∀ p∈ps,qT t p=qT t' p)→vH t ps d=vH t' ps d
 | [],d,_=>rfl
 | p::ps,d,h=>by
  show vH t ps (max d (qT t p+1))=vH t' ps (max d (qT t' p+1))
  rw [h p (List.mem_cons_self ..)]
  exact wj ps _ fun q hq=>h q (List.mem_cons_of_mem _ hq)
theorem C7 {L:List Event} (h:Good L) (i:Nat):Good (L.take i):=
 ⟨(List.Sublist.map _ (List.take_sublist i L)).nodup h.uq,fun j hj p hp=>by
  rw [List.length_take] at hj
  have e:∀ q,q<i→q<L.length→ev (L.take i) q=ev L q:=fun q h1 h2=>by
   unfold ev; rw [gD,gD,List.getElem?_take,if_pos h1]
  rw [e j om om] at hp
  obtain ⟨q,h1,h2⟩:=h.cl j om p hp
  exact ⟨q,h1,by rw [e q om om]; exact h2⟩⟩
theorem GI {L:List Event} (h:Good L) {i:Nat} (hi:i<L.length):qT (tb L) (ev L i).b9=vH (tb L) (ev L i).ae 0:=by
 have h1:qT (tb L) (ev L i).b9=vH (tb (L.take i)) (ev L i).ae 0:=by
  have:=DX h hi
  show ((mget (tb L) _).map (·.2)).getD 0=_
  rw [this]; rfl
 rw [h1]
 refine wj _ _ fun p hp=>?_
 obtain ⟨j,hj,rfl⟩:=h.cl i hi p hp
 have e:ev (L.take i) j=ev L j:=by
  unfold ev; rw [gD,gD,List.getElem?_take,if_pos hj]
 have hs:=DX (C7 h i) (i:=j) (by rw [List.length_take]; omega)
 rw [e] at hs
 obtain ⟨Z,hz⟩:=FX (L.take i) (L.drop i)
 rw [List.take_append_drop] at hz
 unfold qT
 rw [hz,zo (by rw [hs]; rfl)]
theorem Ef {L:List Event} {id:BA} (h:ix L id = -1):qT (tb L) id=0:=by
 unfold qT
 cases e:mget (tb L) id with
 | none=>rfl
 | some v=>
  exfalso
  have h1:id∈(tb L).map (·.1):=nk.2 (by rw [e]; rfl)
  rw [yu] at h1
  obtain ⟨e',he,h2⟩:=List.mem_map.1 h1
  obtain ⟨i,hi,rfl⟩:=sr he
  rcases mO L id with ⟨_,h3⟩ | ⟨j,q,_⟩
  ·exact h3 i hi h2
  ·omega
theorem FH {L:List Event} (h:Good L) {i:Nat} (hi:i<L.length):ix L (ev L i).b9=(i:Int):=by
 rcases mO L (ev L i).b9 with ⟨_,h3⟩ | ⟨j,q,hj,he⟩
 ·exact absurd rfl (h3 i hi)
 ·have h1:(L.map (·.b9))[i]? = some (ev L i).b9:=by rw [List.getElem?_map,vC hi]; rfl
  have h2:(L.map (·.b9))[j]? = some (ev L i).b9:=by rw [List.getElem?_map,vC hj]; exact congrArg some he
  have:j=i:=by
   have hn:=List.pairwise_iff_getElem.1 h.uq
   have li:i<(L.map (·.b9)).length:=by rw [List.length_map]; exact hi
   have lj:j<(L.map (·.b9)).length:=by rw [List.length_map]; exact hj
   rw [gE li] at h1
   rw [gE lj] at h2
   rcases Nat.lt_trichotomy i j with h3 | h3 | h3
   ·exact absurd ((Option.some.inj h1).trans (Option.some.inj h2).symm) (hn i j li lj h3)
   ·exact h3.symm
   ·exact absurd ((Option.some.inj h2).trans (Option.some.inj h1).symm) (hn j i lj li h3)
  rw [q,this]
section
variable {d:aF} (hg:Good d.fL) (hl:d.fL.length≤100000)
include hg hl
theorem Fk {i:Nat} (hi:i<d.fL.length):∀ n x:Nat,(ev d.fL i).ae.length-x=n→x≤(ev d.fL i).ae.length→(ev d.fL i).ae.length≤maxLen→∀ arr:List Int,i<arr.length→
  (∀ j,j<i→arr.getD j default=qT (tb d.fL) (ev d.fL j).b9)→
  ∃ r:Int×Bool×List Int,El (fun k j=>dz.l1 k d (i:Int) j (x:Int) arr) r∧r.2.2=arr.set i (vH (tb d.fL) ((ev d.fL i).ae.drop x) (arr.getD i default)):=by
 intro n
 induction n with
 | zero=>
  intro x hd hx hp arr ha hj
  obtain rfl:x=(ev d.fL i).ae.length:=om
  refine ⟨(((ev d.fL i).ae.length:Int),false,arr),?_,?_⟩
  ·refine El.step (fun _ _=>by rw [dz.l1]) ?_
   rw [jU hi]
   exact El.aq ⟨om,om⟩ (El.cf sM (by simpa using El.pure))
  ·rw [List.drop_length]
   show arr=arr.set i (arr.getD i default)
   rw [gD,gE ha]
   simp
 | succ n ih=>
  intro x hd hx hp arr ha hj
  have hp2:(ev d.fL i).ae.length≤9223372036854775807:=hp
  have hx2:x<(ev d.fL i).ae.length:=om
  have hpar:par (ev d.fL i) x∈(ev d.fL i).ae:=by
   unfold par; rw [gD,gE hx2]; exact List.getElem_mem hx2
  obtain ⟨j,hj1,hj2⟩:=hg.cl i hi _ hpar
  have hat:=rB (d:=d) (par (ev d.fL i) x) (by show _≤9223372036854775807; omega)
  rw [← hj2,FH hg (show j<d.fL.length by omega),hj2] at hat
  have hdj:=dpt_l d.fL (ev d.fL j).b9
  have hv:=hj j hj1
  obtain ⟨r,h1,h2⟩:=ih (x+1) om om hp (arr.set i (max (arr.getD i default) (qT (tb d.fL) (ev d.fL j).b9+1))) (by rw [List.length_set]; exact ha) (fun q hq=>by
   rw [gD,List.getElem?_set_ne om,← gD]; exact hj q hq)
  refine ⟨r,?_,?_⟩
  ·refine El.step (fun _ _=>by rw [dz.l1]) ?_
   rw [jU hi]
   refine El.aq ⟨om,om⟩ (El.ct (dT om) (El.aq ⟨om,om⟩ (El.aq ⟨om,om⟩ (El.aq ⟨om,om⟩ ?_))))
   rw [lJ hx2]
   refine El.bind hat.el (El.aq ⟨om,om⟩ (El.aq ⟨om,om⟩ ?_))
   rw [aJ (x:=(x:Int)+1) om om,Int.toNat_natCast,Int.toNat_natCast,hv,aJ (x:=qT (tb d.fL) (ev d.fL j).b9+1) om om]
   exact h1
  ·rw [h2,List.set_set]
   have hdr:(ev d.fL i).ae.drop x=par (ev d.fL i) x::(ev d.fL i).ae.drop (x+1):=by
    rw [List.drop_eq_getElem_cons hx2]; unfold par; rw [gD,gE hx2]; rfl
   rw [hdr]
   congr 1
   rw [gD,List.getElem?_set_self ha]
   show vH _ _ _=vH (tb d.fL) ((ev d.fL i).ae.drop (x+1)) (max (arr.getD i default) (qT (tb d.fL) (par (ev d.fL i) x)+1))
   rw [← hj2]; rfl
theorem Dk {K:Nat} (hK:K<d.fL.length) (hp:∀ i,i<d.fL.length→(ev d.fL i).ae.length≤maxLen):∀ n x:Nat,K+1-x=n→x≤K+1→∀ arr:List Int,arr.length=K+1→
  (∀ j,j<x→arr.getD j default=qT (tb d.fL) (ev d.fL j).b9)→(∀ j,x≤j→j≤K→arr.getD j default=0)→
  ∃ r:Int×Bool×List Int,El (fun k j=>dz.l0 k d (K:Int) j (x:Int) arr) r∧r.2.2.length=K+1∧∀ j,j≤K→r.2.2.getD j default=qT (tb d.fL) (ev d.fL j).b9:=by
 intro n
 induction n with
 | zero=>
  intro x hd hx arr ha h1 h2
  obtain rfl:x=K+1:=om
  refine ⟨(((K+1:Nat):Int),false,arr),?_,ha,fun j hj=>h1 j om⟩
  refine El.step (fun _ _=>by rw [dz.l0]) ?_
  have:decide (((K+1:Nat):Int)≤(K:Int))=false:=dF om
  exact El.cf this (by rw [this]; exact El.pure)
 | succ n ih=>
  intro x hd hx arr ha h1 h2
  obtain ⟨r,r1,r2⟩:=Fk hg hl (i:=x) om _ 0 rfl om (hp x om) arr om h1
  rw [List.drop_zero,h2 x om om,← GI hg om] at r2
  obtain ⟨q,q1,q2⟩:=ih (x+1) om om (arr.set x (qT (tb d.fL) (ev d.fL x).b9)) (by rw [List.length_set]; exact ha) (fun j hj=>by
   by_cases e:j=x
   ·subst e; rw [gD,List.getElem?_set_self om]; rfl
   ·rw [gD,List.getElem?_set_ne om,← gD]; exact h1 j om) (fun j h3 h4=>by
   rw [gD,List.getElem?_set_ne om,← gD]; exact h2 j om h4)
  refine ⟨q,?_,q2⟩
  refine El.step (fun _ _=>by rw [dz.l0]) ?_
  refine El.ct (dT om) (El.bind r1.diag.el ?_)
  rw [r2,aJ (x:=(x:Int)+1) om om]
  exact q1
theorem F7 (hp:∀ i,i<d.fL.length→(ev d.fL i).ae.length≤maxLen) (id:BA):Ev (fun k=>dz.f k d id) (qT (tb d.fL) id):=by
 unfold dz.f
 refine Ev.bind (rB id (by show _≤9223372036854775807; omega)) ?_
 rcases mO d.fL id with ⟨q,h⟩ | ⟨j,q,hj,he⟩
 ·rw [Ef q,q]; exact Ev.ct rfl Ev.pure
 ·obtain ⟨r,r1,r2,r3⟩:=Dk hg hl hj hp _ 0 rfl om (List.replicate (j+1) 0) sM (fun i hi=>om) (fun i _ hi=>by
   rw [gD,List.getElem?_replicate,if_pos om]; rfl)
  rw [q,aJ (x:=(j:Int)+1) om om,show ((j:Int)+1).toNat=j+1 by omega]
  refine Ev.cf (dF om) (Ev.aq ⟨om,om,om⟩ (Ev.bind r1.diag (Ev.aq ⟨om,om⟩ (Ev.of ?_))))
  rw [Int.toNat_natCast,r3 j (Nat.le_refl _),he]
def pos (t:oc) (id:BA):Pos:=⟨qT t id,id⟩
theorem J5 (hp:∀ i,i<d.fL.length→(ev d.fL i).ae.length≤maxLen) (id:BA):Ev (fun k=>dC.f k d id) (pos (tb d.fL) id):=by
 unfold dC.f
 exact Ev.bind (F7 hg hl hp id) Ev.pure
end
theorem B8 (x y:Int):Ev (fun k=>bE.f k [x,y]) (if x=0 then y else x):=by
 unfold bE.f
 by_cases hx:x=0
 ·subst hx
  by_cases hy:y=0
  ·subst hy
   suffices t:El (fun k j=>bE.l0 k [0,0] j 0) (.inl (2,false)) by
    exact Ev.bind t.diag Ev.pure
   refine El.step (fun _ _=>by rw [bE.l0]) ?_
   refine El.ct rfl (El.aq (of_decide_eq_true rfl) (El.cf rfl ?_))
   refine El.step (fun _ _=>by rw [bE.l0]) ?_
   refine El.ct rfl (El.aq (of_decide_eq_true rfl) (El.cf rfl ?_))
   refine El.step (fun _ _=>by rw [bE.l0]) ?_
   exact El.cf rfl El.pure
  ·suffices t:El (fun k j=>bE.l0 k [0,y] j 0) (.inr y) by
    exact Ev.bind t.diag Ev.pure
   refine El.step (fun _ _=>by rw [bE.l0]) ?_
   refine El.ct rfl (El.aq (of_decide_eq_true rfl) (El.cf rfl ?_))
   refine El.step (fun _ _=>by rw [bE.l0]) ?_
   exact El.ct rfl (El.aq (of_decide_eq_true rfl) (El.ct (by simpa [Kd.at,aJ] using hy) El.pure))
 ·rw [if_neg hx]
  suffices t:El (fun k j=>bE.l0 k [x,y] j 0) (.inr x) by
   exact Ev.bind t.diag Ev.pure
  refine El.step (fun _ _=>by rw [bE.l0]) ?_
  exact El.ct rfl (El.aq (of_decide_eq_true rfl) (El.ct (by simpa [Kd.at] using hx) El.pure))
theorem uV (x y:BA):aD.f x y=some (jS x y):=by
 unfold aD.f cmp_isNaN_string.f jS
 cases h1:dH x y <;> cases h2:dH y x <;> simp
def mZ (x y:Int):Int:=if x<y then -1 else if y<x then 1 else 0
theorem AB (x y:Int):cF.f x y=some (mZ x y):=by
 unfold cF.f cmp_isNaN_int.f mZ
 by_cases h1:x<y <;> by_cases h2:y<x <;> simp [h1,h2]
end Go.Proofs.YtfknmdelgepbjaaGreatDoor
