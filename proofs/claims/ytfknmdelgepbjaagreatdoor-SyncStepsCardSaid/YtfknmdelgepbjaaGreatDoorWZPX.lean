import Derived.Test.YtfknmdelgepbjaaGreatDoorWZVC
set_option linter.all false
set_option maxRecDepth 10000
namespace Go.Proofs.YtfknmdelgepbjaaGreatDoor
open Go Go.Sp
def ix:List Event→BA→Int
 | [],_=>-1
 | e::l,id=>if e.bV=id then 0 else if ix l id = -1 then -1 else ix l id+1
theorem Hq:∀ (l:List Event) (id:BA),FE l id (ix l id)
 | [],id=>.inl ⟨rfl,fun i hi=>by simp at hi⟩
 | e::l,id=>by
  unfold ix
  by_cases hb:e.bV=id
  ·rw [if_pos hb]
   exact .inr ⟨0,rfl,sM,by simpa [ev] using hb,fun i hi=>om⟩
  ·rw [if_neg hb]
   rcases Hq l id with ⟨q,h⟩ | ⟨j,q,h1,h2,h3⟩
   ·left
    rw [q]
    refine ⟨sM,fun i hi=>?_⟩
    cases i with
    | zero=>simpa [ev] using hb
    | succ i=>simpa [ev] using h i (by simpa using hi)
   ·right
    rw [q]
    refine ⟨j+1,by rw [if_neg om]; simp,by simpa using h1,by simpa [ev] using h2,fun i hi=>?_⟩
    cases i with
    | zero=>simpa [ev] using hb
    | succ i=>simpa [ev] using h3 i om
theorem mZ (l:List Event) (id:BA):(ix l id = -1∧∀ i:Nat,i<l.length→(ev l i).bV≠id)∨∃ j:Nat,ix l id=(j:Int)∧j<l.length∧(ev l j).bV=id:=by
 rcases Hq l id with h | ⟨j,h1,h2,h3,_⟩
 ·exact .inl h
 ·exact .inr ⟨j,h1,h2,h3⟩
theorem sn {d:aK} (id:BA) (hl:d.fL.length≤maxLen):Ev (fun k=>eG.f k d id) (ix d.fL id):=at_ev hl (Hq _ _)
def code (d:aK) (e:Event):Int:=
 if pO e=false then 1 else if e.ab≠d.ab then 1 else if 0≤ix d.fL e.bV then 9
 else if ie (fun i=>decide (0≤ix d.fL (par e i))) 0 e.ag.length=false then 4
 else if e.ae=⟨#[]⟩ then 0 else if ix d.fL e.ae<0 then 4
 else if (ev d.fL (ix d.fL e.ae).toNat).ae≠⟨#[]⟩ then 7 else if (ev d.fL (ix d.fL e.ae).toNat).bR≠0 then 7 else 0
theorem AV {d:aK} {e:Event} (he:Event.ok e) (hl:d.fL.length≤100000):∃ r:(Int×Bool) ⊕ (aK×Int),El (fun k j=>dS.l0 k d e j 0) r∧(ie (fun i=>decide (0≤ix d.fL (par e i))) 0 e.ag.length=true→∃ x,r = .inl x)∧(ie (fun i=>decide (0≤ix d.fL (par e i))) 0 e.ag.length=false→r = .inr (d,4)):=by
 have hn:e.ag.length≤9223372036854775807:=he.2.2.1.1
 have hl2:d.fL.length≤maxLen:=by show _≤9223372036854775807; omega
 obtain ⟨r,h1,h2⟩:=Dd (F:=fun k j x=>dS.l0 k d e j (x:Int)) (p:=fun i=>decide (0≤ix d.fL (par e i))) (n:=e.ag.length) (fun r b=>(b=true→∃ x,r = .inl x)∧(b=false→r = .inr (d,4))) (by
  refine ⟨.inl ((e.ag.length:Int),false),?_,fun _=>⟨_,rfl⟩,fun h=>by cases h⟩
  refine El.step (fun _ _=>by rw [dS.l0]) ?_
  exact El.cf sM (by simpa using El.pure)) (by
  intro x hx hp
  refine ⟨.inr (d,4),?_,fun h=>(by cases h),fun _=>rfl⟩
  refine El.step (fun _ _=>by rw [dS.l0]) ?_
  refine El.ct (by simpa using hx) (El.an ⟨om,om⟩ ?_)
  rw [lX hx]
  refine El.bind (sn _ hl2).el (El.ct ?_ El.pure)
  simp at hp ⊢; omega) (by
  intro x r hx hp ih
  refine El.step (fun _ _=>by rw [dS.l0]) ?_
  refine El.ct (by simpa using hx) (El.an ⟨om,om⟩ ?_)
  rw [lX hx]
  refine El.bind (sn _ hl2).el (El.cf ?_ ?_)
  ·simp at hp ⊢; omega
  ·rw [aE (x:=(x:Int)+1) om om]; exact ih) _ 0 rfl om
 exact ⟨r,h1,h2.1,h2.2⟩
theorem BM {d:aK} {e:Event} (he:Event.ok e) (hl:d.fL.length≤100000):Ev (fun k=>dS.f k d e) (if code d e=0 then ((⟨d.ab,d.fL++[e]⟩:aK),0) else (d,code d e)):=by
 have hl2:d.fL.length≤maxLen:=by show _≤9223372036854775807; omega
 obtain ⟨r,h1,h2,h3⟩:=AV he hl
 unfold dS.f code
 refine Ev.bind (may2 he) ?_
 cases hm:pO e with
 | false=>exact Ev.ct rfl (Ev.of rfl)
 | true=>
  refine Ev.cf rfl ?_
  simp only [Bool.true_eq_false,if_false]
  by_cases hr:e.ab=d.ab
  ·refine Ev.cf (by simp [hr]) (Ev.bind (sn _ hl2) ?_)
   rw [if_neg (Classical.not_not.2 hr)]
   by_cases h9:0≤ix d.fL e.bV
   ·rw [if_pos h9]
    exact Ev.ct (dT h9) (Ev.of rfl)
   ·rw [if_neg h9]
    refine Ev.cf (dF h9) (Ev.bind h1.diag ?_)
    cases ha:ie (fun i=>decide (0≤ix d.fL (par e i))) 0 e.ag.length with
    | false=>rw [h3 ha]; exact Ev.of rfl
    | true=>
     obtain ⟨x,rfl⟩:=h2 ha
     simp only [fall,Bool.true_eq_false,if_false]
     have fin:Ev (fun k=>an (([]:List Event).length+d.fL.length≤9223372036854775807∧(([]:List Event).length+d.fL.length)*96≤140737488355328) (an ((([]:List Event)++d.fL).length+([e]:List Event).length≤9223372036854775807∧((([]:List Event)++d.fL).length+([e]:List Event).length)*96≤140737488355328) (some ((⟨d.ab,(([]:List Event)++d.fL)++([e]:List Event)⟩:aK),(0:Int))))) ((⟨d.ab,d.fL++[e]⟩:aK),0):=
      Ev.an ⟨by simp; omega,by simp; omega⟩ (Ev.an ⟨by simp; omega,by simp; omega⟩ (Ev.of sM))
     by_cases ht:e.ae=⟨#[]⟩
     ·rw [if_pos ht]
      refine Ev.bind (a:=.inl ()) (Ev.cf (by simp [ht]) Ev.pure) ?_
      simpa only [fall,if_true] using fin
     ·rw [if_neg ht]
      rcases mZ d.fL e.ae with ⟨q,_⟩ | ⟨j,q,hj,_⟩
      ·rw [if_pos (show ix d.fL e.ae<0 by omega)]
       refine Ev.bind (a:=.inr (d,4)) (Ev.ct (by simp [ht]) (Ev.bind (sn _ hl2) (Ev.ct (dT om) Ev.pure))) (Ev.of rfl)
      ·rw [if_neg (show ¬ ix d.fL e.ae<0 by omega),q,Int.toNat_natCast]
       have hh:∀ {y:Unit ⊕ (aK×Int)},Ev (fun k=>an ((0:Int)≤(j:Int)∧(j:Int)<(d.fL.length:Int)) (cond (!decide (((Event.K.at d.fL (j:Int)).ae)=eE)) (some (.inr (d,(7:Int)))) (an ((0:Int)≤(j:Int)∧(j:Int)<(d.fL.length:Int)) (cond (((Event.K.at d.fL (j:Int)).bR) != 0) (some (.inr (d,(7:Int)))) (some (.inl ())))))) y→Ev (fun k=>cond (!decide (e.ae=eE)) ((eG.f k d e.ae).bind fun t206=>cond (decide (t206<0)) (some (.inr (d,4))) (an ((0:Int)≤t206∧t206<(d.fL.length:Int)) (cond (!decide (((Event.K.at d.fL t206).ae)=eE)) (some (.inr (d,7))) (an ((0:Int)≤t206∧t206<(d.fL.length:Int)) (cond (((Event.K.at d.fL t206).bR) != 0) (some (.inr (d,7))) (some (.inl ()))))))) (some (.inl ()))) y:=fun h=>Ev.ct (by simp [ht]) (Ev.bind (a:=(j:Int)) (by rw [← q]; exact sn _ hl2) (Ev.cf (dF om) h))
       by_cases h7:(ev d.fL j).ae=⟨#[]⟩
       ·rw [if_neg (Classical.not_not.2 h7)]
        by_cases h8:(ev d.fL j).bR=0
        ·rw [if_neg (Classical.not_not.2 h8)]
         refine Ev.bind (a:=.inl ()) (hh (Ev.an ⟨om,om⟩ (Ev.cf (by rw [kg hj]; simp [h7]) (Ev.an ⟨om,om⟩ (Ev.cf (by rw [kg hj]; simp [h8]) Ev.pure))))) ?_
         simpa only [fall,if_true] using fin
        ·rw [if_pos h8]
         exact Ev.bind (a:=.inr (d,7)) (hh (Ev.an ⟨om,om⟩ (Ev.cf (by rw [kg hj]; simp [h7]) (Ev.an ⟨om,om⟩ (Ev.ct (by rw [kg hj]; simpa using h8) Ev.pure))))) (Ev.of rfl)
       ·rw [if_pos h7]
        exact Ev.bind (a:=.inr (d,7)) (hh (Ev.an ⟨om,om⟩ (Ev.ct (by rw [kg hj]; simpa using h7) Ev.pure))) (Ev.of rfl)
  ·rw [if_pos hr]
   exact Ev.ct (by simp [hr]) (Ev.of rfl)
structure Rel (m:bp) (d:aK):Prop where
 room:m.cQ=d.ab
 uniq:∀ i j,i<d.fL.length→j<d.fL.length→(ev d.fL i).bV=(ev d.fL j).bV→i=j
 LS:∀ i,i<d.fL.length→∃ nd,mget m.ao (ev d.fL i).bV=some nd∧nd.fe=ev d.fL i
 LK:∀ id,(∀ i,i<d.fL.length→(ev d.fL i).bV≠id)→mget m.ao id=none
theorem sB (room:BA):Rel ⟨room,[]⟩ ⟨room,[]⟩:=⟨rfl,fun i j h=>by simp at h,fun i h=>by simp at h,fun id _=>rfl⟩
theorem tO {m:bp} {d:aK} (hr:Rel m d) (id:BA):(ix d.fL id = -1∧mget m.ao id=none)∨∃ j:Nat,ix d.fL id=(j:Int)∧j<d.fL.length∧(ev d.fL j).bV=id∧∃ nd,mget m.ao id=some nd∧nd.fe=ev d.fL j:=by
 rcases mZ d.fL id with ⟨q,h⟩ | ⟨j,q,hj,he⟩
 ·exact .inl ⟨q,hr.LK id h⟩
 ·have:=hr.LS j hj
  rw [he] at this
  exact .inr ⟨j,q,hj,he,this⟩
theorem zd {m:bp} {d:aK} (hr:Rel m d) (id:BA):(mget m.ao id).isNone=decide (ix d.fL id<0):=by
 rcases tO hr id with ⟨q,h⟩ | ⟨j,q,hj,he,nd,h,_⟩
 ·rw [q,h]; rfl
 ·rw [q,h,dF om]; rfl
theorem Aa {m:bp} {d:aK} {e:Event} (hr:Rel m d) (he:Event.ok e):Ev (fun k=>cF.f k e.ag (fun a0_=>eT.f a0_ m)) (!ie (fun i=>decide (0≤ix d.fL (par e i))) 0 e.ag.length):=by
 have hn:e.ag.length≤9223372036854775807:=he.2.2.1.1
 have hf:∀ x:Nat,x<e.ag.length→eT.f (aw.at e.ag (x:Int)) m=some (!decide (0≤ix d.fL (par e x))):=fun x hx=>by
  unfold eT.f eD.f
  rw [lX hx,zd hr]
  simp only [Option.bind_some,Bool.not_not]
  congr 1
  rw [Bool.eq_iff_iff]; simp
 obtain ⟨r,h1,h2⟩:=Dd (F:=fun k j x=>aZ.l0 k e.ag (fun a0_=>eT.f a0_ m) j (x:Int)) (p:=fun i=>decide (0≤ix d.fL (par e i))) (n:=e.ag.length) (fun r b=>(b=true→∃ x,r = .inl x)∧(b=false→∃ x:Nat,r = .inr (x:Int))) (by
  refine ⟨.inl ((e.ag.length:Int),false),?_,fun _=>⟨_,rfl⟩,fun h=>by cases h⟩
  refine El.step (fun _ _=>by rw [aZ.l0]) ?_
  exact El.cf sM (by simpa using El.pure)) (by
  intro x hx hp
  refine ⟨.inr (x:Int),?_,fun h=>(by cases h),fun _=>⟨x,rfl⟩⟩
  refine El.step (fun _ _=>by rw [aZ.l0]) ?_
  refine El.ct (by simpa using hx) (El.an ⟨om,om⟩ (El.bind (Ev.of (hf x hx)).el (El.ct ?_ El.pure)))
  rw [hp]; rfl) (by
  intro x r hx hp ih
  refine El.step (fun _ _=>by rw [aZ.l0]) ?_
  refine El.ct (by simpa using hx) (El.an ⟨om,om⟩ (El.bind (Ev.of (hf x hx)).el (El.cf ?_ ?_)))
  ·rw [hp]; rfl
  ·rw [aE (x:=(x:Int)+1) om om]; exact ih) _ 0 rfl om
 unfold cF.f aZ.f
 cases ha:ie (fun i=>decide (0≤ix d.fL (par e i))) 0 e.ag.length with
 | true=>
  obtain ⟨x,rfl⟩:=h2.1 ha
  exact Ev.bind (Ev.bind h1.diag (Ev.of rfl)) (Ev.of rfl)
 | false=>
  obtain ⟨x,rfl⟩:=h2.2 ha
  exact Ev.bind (Ev.bind h1.diag (Ev.of rfl)) (Ev.of sM)
theorem nI {l:List Event} {e:Event} {i:Nat} (hi:i<l.length):ev (l++[e]) i=ev l i:=by
 unfold ev
 rw [gD,gD,List.getElem?_append_left hi]
theorem rE {l:List Event} {e:Event}:ev (l++[e]) l.length=e:=by
 unfold ev
 rw [gD,List.getElem?_append_right (Nat.le_refl _)]; simp
def AZ (x:BA×aY):BA×(Event×Int):=(x.1,(x.2.fe,x.2.cK))
def T (m:bp):List (BA×(Event×Int)):=m.ao.map AZ
def rJ (t:List (BA×(Event×Int))) (p:BA):Int:=((mget t p).map (·.2)).getD 0
def wK (t:List (BA×(Event×Int))) (ps:List BA) (d:Int):Int:=ps.foldl (fun d p=>max d (rJ t p+1)) d
def Low (m:bp):Prop:=∀ x∈m.ao,0≤x.2.cK∧x.2.cK≤1000000
theorem AD {κ α β:Type} [DecidableEq κ] (f:α→β) (k:κ):∀ m:List (κ×α),mget (m.map fun x=>(x.1,f x.2)) k=(mget m k).map f
 | []=>rfl
 | e::m=>by
  simp only [List.map_cons,mget]
  split
  ·rfl
  ·exact AD f k m
theorem Am (m:bp) (k:BA):mget (T m) k=(mget m.ao k).map fun nd=>(nd.fe,nd.cK):=AD (fun nd:aY=>(nd.fe,nd.cK)) k m.ao
theorem Jw {m m':bp} (h:T m'=T m) (id:BA):(mget m'.ao id).map (·.fe)=(mget m.ao id).map (·.fe):=by
 have h1:=Am m id
 have h2:=Am m' id
 rw [h,h1] at h2
 have:=congrArg (Option.map Prod.fst) h2
 simp only [Option.map_map] at this
 exact this.symm
theorem uO {κ α:Type} [DecidableEq κ] {k:κ} {a:α}:∀ {m:List (κ×α)},mget m k=none→mput m k a=m++[(k,a)]
 | [],_=>rfl
 | e::m,h=>by
  simp only [mget] at h
  split at h
  ·cases h
  ·rename_i hn
   simp only [mput,if_neg hn,List.cons_append,uO h]
theorem vA {κ α β:Type} [DecidableEq κ] (f:κ×α→β) {k:κ} {a a':α}:∀ {m:List (κ×α)},mget m k=some a→f (k,a')=f (k,a)→(mput m k a').map f=m.map f
 | [],h,_=>by cases h
 | e::m,h,hf=>by
  simp only [mget] at h
  simp only [mput]
  split
  ·rename_i hk
   rw [if_pos hk] at h
   cases h
   rw [List.map_cons,List.map_cons,hf,← hk]
  ·rename_i hn
   rw [if_neg hn] at h
   rw [List.map_cons,List.map_cons,vA f h hf]
theorem sJ {κ α:Type} [DecidableEq κ] {k:κ} {a:α}:∀ {m:List (κ×α)},mget m k=some a→(k,a)∈m
 | [],h=>by cases h
 | e::m,h=>by
  simp only [mget] at h
  split at h
  ·rename_i hk; cases h; rw [← hk]; exact List.mem_cons_self ..
  ·exact List.mem_cons_of_mem _ (sJ h)
theorem low_T {m m':bp} (h:T m'=T m) (hb:Low m):Low m':=fun x hx=>by
 have h1:AZ x∈T m':=List.mem_map.2 ⟨x,hx,rfl⟩
 rw [h] at h1
 obtain ⟨y,hy,e⟩:=List.mem_map.1 h1
 have:=hb y hy
 simp only [AZ,Prod.mk.injEq] at e
 rw [← e.2.2]; exact this
theorem mark2 {e:Event} (he:Event.ok e):∀ n x,e.ag.length-x=n→x≤e.ag.length→∀ (dep:Int) (m:bp),(∀ i,i<e.ag.length→(mget m.ao (par e i)).isSome=true)→Low m→
  ∃ r:Int×Bool×Int×bp,El (fun k j=>dag_Dag_Add.l0 k e j (x:Int) dep m) r∧r.2.2.2.cQ=m.cQ∧r.2.2.1=wK (T m) (e.ag.drop x) dep∧T r.2.2.2=T m:=by
 have hn:e.ag.length≤9223372036854775807:=he.2.2.1.1
 intro n
 induction n with
 | zero=>
  intro x hd hx dep m hm hb
  obtain rfl:x=e.ag.length:=om
  refine ⟨((e.ag.length:Int),false,dep,m),?_,rfl,by rw [List.drop_length]; rfl,rfl⟩
  refine El.step (fun _ _=>by rw [dag_Dag_Add.l0]) ?_
  exact El.cf sM (by simpa using El.pure)
 | succ n ih=>
  intro x hd hx dep m hm hb
  have hx2:x<e.ag.length:=om
  obtain ⟨nd,hnd⟩:=Option.isSome_iff_exists.1 (hm x hx2)
  have hg:(mget m.ao (par e x)).getD default=nd:=by rw [hnd]; rfl
  have hl:0≤nd.cK∧nd.cK≤1000000:=hb _ (sJ hnd)
  have key:T (⟨m.cQ,mput m.ao (par e x) (⟨nd.fe,nd.cK,true⟩:aY)⟩:bp)=T m:=vA AZ hnd rfl
  have hsome:∀ i,i<e.ag.length→(mget (mput m.ao (par e x) (⟨nd.fe,nd.cK,true⟩:aY)) (par e i)).isSome=true:=fun i hi=>by
   have h4:=hm i hi
   rw [fX]
   split
   ·rfl
   ·exact h4
  obtain ⟨r,h1,h2,h3,h4⟩:=ih (x+1) om om (max dep (av (nd.cK+1))) (⟨m.cQ,mput m.ao (par e x) (⟨nd.fe,nd.cK,true⟩:aY)⟩:bp) hsome (low_T key hb)
  refine ⟨r,?_,h2,?_,h4.trans key⟩
  ·refine El.step (fun _ _=>by rw [dag_Dag_Add.l0]) ?_
   refine El.ct (by simpa using hx2) (El.an ⟨om,om⟩ ?_)
   rw [lX hx2,hg]
   refine El.an (hm x hx2) ?_
   rw [aE (x:=(x:Int)+1) om om]
   exact h1
  ·have hdr:e.ag.drop x=par e x::e.ag.drop (x+1):=by
    rw [List.drop_eq_getElem_cons hx2]; unfold par; rw [gD,gE hx2]; rfl
   have hd2:rJ (T m) (par e x)=nd.cK:=by unfold rJ; rw [Am,hnd]; rfl
   rw [h3,key,hdr,aE (x:=nd.cK+1) om om]
   show _=wK (T m) (e.ag.drop (x+1)) (max dep (rJ (T m) (par e x)+1))
   rw [hd2]
theorem H5 {m:bp} {d:aK} {e:Event} (hr:Rel m d) (he:Event.ok e) (hb:Low m):∃ m',Ev (fun k=>dag_Dag_Add.f k m e) (code d e,m')∧(code d e≠0→m'=m)∧(code d e=0→Rel m' ⟨d.ab,d.fL++[e]⟩∧T m'=T m++[(e.bV,(e,wK (T m) e.ag 0))]∧∃ r,El (fun k j=>dag_Dag_Add.l0 k e j ((0:Nat):Int) 0 m) r∧m'.ao=mput r.2.2.2.ao e.bV (⟨e,r.2.2.1,false⟩:aY)):=by
 unfold dag_Dag_Add.f code
 cases hm:pO e with
 | false=>
  exact ⟨m,Ev.bind (Ie he) (Ev.ct (by rw [hm]; rfl) (Ev.of rfl)),fun _=>rfl,fun h=>(by cases h)⟩
 | true=>
  simp only [Bool.true_eq_false,if_false]
  by_cases hroom:e.ab=d.ab
  ·rw [if_neg (Classical.not_not.2 hroom)]
   by_cases h9:0≤ix d.fL e.bV
   ·rw [if_pos h9]
    refine ⟨m,Ev.bind (Ie he) (Ev.cf (by rw [hm]; rfl) (Ev.cf (by rw [hr.room]; simp [hroom]) (Ev.bind (Ev.of rfl) (Ev.ct ?_ (Ev.of rfl))))),fun _=>rfl,fun h=>(by cases h)⟩
    rw [zd hr,dF om]; rfl
   ·rw [if_neg h9]
    have pre:∀ {y:Int×bp} {G:Nat→Option (Int×bp)},(ie (fun i=>decide (0≤ix d.fL (par e i))) 0 e.ag.length=true→Ev G y)→(ie (fun i=>decide (0≤ix d.fL (par e i))) 0 e.ag.length=false→y=(4,m))→Ev (fun k=>(dE.f k e).bind fun t497=>cond (!t497) (some (1,m)) (cond (!decide (e.ab=m.cQ)) (some (1,m)) ((eD.f m e.bV).bind fun t502=>cond t502 (some (9,m)) ((cF.f k e.ag (fun a0_=>eT.f a0_ m)).bind fun t505=>cond t505 (some (4,m)) (G k))))) y:=fun {y G} h h0=>by
     refine Ev.bind (Ie he) (Ev.cf (by rw [hm]; rfl) (Ev.cf (by rw [hr.room]; simp [hroom]) (Ev.bind (Ev.of rfl) (Ev.cf ?_ (Ev.bind (Aa hr he) ?_)))))
     ·rw [zd hr,dT om]; rfl
     ·cases ha:ie (fun i=>decide (0≤ix d.fL (par e i))) 0 e.ag.length with
      | true=>exact Ev.cf rfl (h ha)
      | false=>rw [h0 ha]; exact Ev.ct rfl (Ev.of rfl)
    cases ha:ie (fun i=>decide (0≤ix d.fL (par e i))) 0 e.ag.length with
    | false=>exact ⟨m,pre (fun h'=>absurd (ha.symm.trans h') dc) (fun _=>rfl),fun _=>rfl,fun h=>(by cases h)⟩
    | true=>
     simp only [Bool.true_eq_false,if_false]
     have hall:∀ i,i<e.ag.length→(mget m.ao (par e i)).isSome=true:=fun i hi=>by
      have h1:=kG.1 ha i om hi
      rcases tO hr (par e i) with ⟨q,_⟩ | ⟨j,q,_,_,nd,h,_⟩
      ·simp [q] at h1
      ·rw [h]; rfl
     obtain ⟨r,l1,l2,l4,l5⟩:=mark2 he _ 0 rfl om 0 m hall hb
     have l3:=Jw l5
     have hnew:∀ i,i<d.fL.length→(ev d.fL i).bV≠e.bV:=fun i hi=>by
      rcases mZ d.fL e.bV with ⟨_,h⟩ | ⟨j,q,_⟩
      ·exact h i hi
      ·omega
     have own:iJ.f e=some e:=by
      have h4:e.ag.length≤4:=by
       have h5:=hm
       unfold pO at h5; simp at h5; exact h5.2.2.2.1
      unfold iJ.f dQ.f
      simp only [an]
      rw [if_pos ⟨om,om⟩]; rfl
     have fin:Ev (fun k=>(iJ.f e).bind fun t509=>(dag_Dag_Add.l0 k e k 0 0 m).bind fun (p512:Int×Bool×Int×bp)=>some ((0:Int),(⟨p512.2.2.2.cQ,mput p512.2.2.2.ao e.bV (⟨t509,p512.2.2.1,false⟩:aY)⟩:bp))) (0,(⟨r.2.2.2.cQ,mput r.2.2.2.ao e.bV (⟨e,r.2.2.1,false⟩:aY)⟩:bp)):=
      Ev.bind (Ev.of own) (Ev.bind l1.diag Ev.pure)
     have rel:Rel (⟨r.2.2.2.cQ,mput r.2.2.2.ao e.bV (⟨e,r.2.2.1,false⟩:aY)⟩:bp) ⟨d.ab,d.fL++[e]⟩:=by
      refine ⟨l2.trans hr.room,fun i j hi hj hij=>?_,fun i hi=>?_,fun id hid=>?_⟩
      ·simp only [List.length_append,List.length_singleton] at hi hj
       rcases Nat.lt_or_ge i d.fL.length with h1 | h1 <;> rcases Nat.lt_or_ge j d.fL.length with h2 | h2
       ·rw [nI h1,nI h2] at hij; exact hr.uniq i j h1 h2 hij
       ·obtain rfl:j=d.fL.length:=om
        rw [nI h1,rE] at hij; exact absurd hij (hnew i h1)
       ·obtain rfl:i=d.fL.length:=om
        rw [rE,nI h2] at hij; exact absurd hij.symm (hnew j h2)
       ·omega
      ·simp only [List.length_append,List.length_singleton] at hi
       rcases Nat.lt_or_ge i d.fL.length with h1 | h1
       ·rw [nI h1]
        obtain ⟨nd,g1,g2⟩:=hr.LS i h1
        have:=l3 (ev d.fL i).bV
        rw [g1] at this
        simp only [fX,if_neg (fun h=>hnew i h1 h.symm:¬ e.bV=(ev d.fL i).bV)]
        cases h5:mget r.2.2.2.ao (ev d.fL i).bV with
        | none=>rw [h5] at this; cases this
        | some v=>rw [h5] at this; exact ⟨v,rfl,(Option.some.inj this).trans g2⟩
       ·obtain rfl:i=d.fL.length:=om
        rw [rE]
        exact ⟨⟨e,r.2.2.1,false⟩,by simp only [fX,if_true],rfl⟩
      ·have h1:e.bV≠id:=by have:=hid d.fL.length sM; rwa [rE] at this
       simp only [fX,if_neg h1]
       have h2:=hr.LK id fun i hi=>by have:=hid i (by simp; omega); rwa [nI hi] at this
       have:=l3 id
       rw [h2] at this
       cases h5:mget r.2.2.2.ao id with
       | none=>rfl
       | some v=>rw [h5] at this; cases this
     have relT:T (⟨r.2.2.2.cQ,mput r.2.2.2.ao e.bV (⟨e,r.2.2.1,false⟩:aY)⟩:bp)=T m++[(e.bV,(e,wK (T m) e.ag 0))]:=by
      have hn:mget r.2.2.2.ao e.bV=none:=by
       have h2:=hr.LK e.bV hnew
       have:=l3 e.bV
       rw [h2] at this
       cases h5:mget r.2.2.2.ao e.bV with
       | none=>rfl
       | some v=>rw [h5] at this; cases this
      show (mput r.2.2.2.ao e.bV (⟨e,r.2.2.1,false⟩:aY)).map AZ=_
      rw [uO hn,List.map_append]
      show T r.2.2.2++[(e.bV,(e,r.2.2.1))]=_
      rw [l5,l4,List.drop_zero]
     by_cases ht:e.ae=⟨#[]⟩
     ·rw [if_pos ht]
      refine ⟨_,pre (fun _=>Ev.bind (a:=.inl ()) (Ev.cf (by simp [ht]) Ev.pure) ?_) (fun h'=>absurd (ha.symm.trans h') dc),fun h=>absurd rfl h,fun _=>⟨rel,relT,r,l1,rfl⟩⟩
      simpa only [fall] using fin
     ·rw [if_neg ht]
      rcases tO hr e.ae with ⟨q,h⟩ | ⟨j,q,hj,_,nd,h,hnd⟩
      ·rw [if_pos (show ix d.fL e.ae<0 by omega)]
       refine ⟨m,pre (fun _=>Ev.bind (a:=.inr (4,m)) (Ev.ct (by simp [ht]) (Ev.ct (by rw [h]; rfl) Ev.pure)) (Ev.eq Ev.pure fun _=>rfl)) (fun h'=>absurd (ha.symm.trans h') dc),fun _=>rfl,fun h=>(by cases h)⟩
      ·rw [if_neg (show ¬ ix d.fL e.ae<0 by omega),q,Int.toNat_natCast,← hnd]
       by_cases h7:nd.fe.ae=⟨#[]⟩
       ·rw [if_neg (Classical.not_not.2 h7)]
        by_cases h8:nd.fe.bR=0
        ·rw [if_neg (Classical.not_not.2 h8)]
         refine ⟨_,pre (fun _=>Ev.bind (a:=.inl ()) (Ev.ct (by simp [ht]) (Ev.cf (by rw [h]; rfl) (Ev.an (by rw [h]; rfl) (Ev.cf (by rw [h]; simp [h7]) (Ev.cf (by rw [h]; simp [h8]) Ev.pure))))) ?_) (fun h'=>absurd (ha.symm.trans h') dc),fun h=>absurd rfl h,fun _=>⟨rel,relT,r,l1,rfl⟩⟩
         simpa only [fall] using fin
        ·rw [if_pos h8]
         refine ⟨m,pre (fun _=>Ev.bind (a:=.inr (7,m)) (Ev.ct (by simp [ht]) (Ev.cf (by rw [h]; rfl) (Ev.an (by rw [h]; rfl) (Ev.cf (by rw [h]; simp [h7]) (Ev.ct (by rw [h]; simpa using h8) Ev.pure))))) (Ev.eq Ev.pure fun _=>rfl)) (fun h'=>absurd (ha.symm.trans h') dc),fun _=>rfl,fun h=>(by cases h)⟩
       ·rw [if_pos h7]
        refine ⟨m,pre (fun _=>Ev.bind (a:=.inr (7,m)) (Ev.ct (by simp [ht]) (Ev.cf (by rw [h]; rfl) (Ev.an (by rw [h]; rfl) (Ev.ct (by rw [h]; simpa using h7) Ev.pure)))) (Ev.eq Ev.pure fun _=>rfl)) (fun h'=>absurd (ha.symm.trans h') dc),fun _=>rfl,fun h=>(by cases h)⟩
  ·rw [if_pos hroom]
   exact ⟨m,Ev.bind (Ie he) (Ev.cf (by rw [hm]; rfl) (Ev.ct (by rw [hr.room]; simp [hroom]) (Ev.of rfl))),fun _=>rfl,fun h=>(by cases h)⟩
abbrev oO:=List (BA×(Event×Int))
theorem rR {α:Type} {P:List α→Prop} (h0:P []) (h1:∀ l e,P l→P (l++[e])) (l:List α):P l:=by
 have:∀ r:List α,P r.reverse:=fun r=>by
  induction r with
  | nil=>exact h0
  | cons e r ih=>rw [List.reverse_cons]; exact h1 _ _ ih
 rw [← List.reverse_reverse l]; exact this _
def E6 (l:List BA) (s:BA):Bool:=l.any fun x=>decide (x=s)
theorem CN {l:List BA} {s:BA}:E6 l s=true↔s∈l:=by simp [E6]
theorem Lp {l:List BA} {s:BA} (h:s ∉ l):E6 l s=false:=by
 cases e:E6 l s with
 | false=>rfl
 | true=>exact absurd (CN.1 e) h
def ud (L:List Event) (id:BA):Bool:=L.any fun e=>E6 e.ag id
def tstep (t:oO) (e:Event):oO:=t++[(e.bV,(e,wK t e.ag 0))]
def tb (L:List Event):oO:=L.foldl tstep []
theorem rA (L:List Event) (e:Event):tb (L++[e])=tb L++[(e.bV,(e,wK (tb L) e.ag 0))]:=by unfold tb; rw [List.foldl_append]; rfl
theorem yA (L:List Event):(tb L).map (·.1)=L.map (·.bV):=by
 induction L using rR with
 | h0=>rfl
 | h1 l e ih=>rw [rA,List.map_append,List.map_append,ih]; rfl
theorem BV (L:List Event):(tb L).map (·.2.1)=L:=by
 induction L using rR with
 | h0=>rfl
 | h1 l e ih=>rw [rA,List.map_append,ih]; rfl
theorem Hi (L:List Event):(tb L).length=L.length:=by
 have:=congrArg List.length (BV L); rwa [List.length_map] at this
theorem F2 (A B:List Event):∃ Z,tb (A++B)=tb A++Z:=by
 induction B using rR with
 | h0=>exact ⟨[],sM⟩
 | h1 l e ih=>
  obtain ⟨Z,h⟩:=ih
  exact ⟨Z++[(e.bV,(e,wK (tb (A++l)) e.ag 0))],by rw [← List.append_assoc,rA,h,List.append_assoc]⟩
theorem Km {t:oO} {B:Int} (hB:0≤B) (h:∀ x∈t,0≤x.2.2∧x.2.2≤B) (p:BA):0≤rJ t p∧rJ t p≤B:=by
 unfold rJ
 cases e:mget t p with
 | none=>exact ⟨Int.le_refl _,hB⟩
 | some v=>exact h _ (sJ e)
theorem JU {t:oO} {B:Int} (hB:0≤B) (h:∀ x∈t,0≤x.2.2∧x.2.2≤B):∀ (ps:List BA) (d:Int),0≤d∧d≤B+1→0≤wK t ps d∧wK t ps d≤B+1
 | [],d,hd=>hd
 | p::ps,d,hd=>by
  have:=Km hB h p
  exact JU hB h ps (max d (rJ t p+1)) ⟨om,om⟩
theorem tb_b (L:List Event):∀ x∈tb L,0≤x.2.2∧x.2.2≤(L.length:Int):=by
 induction L using rR with
 | h0=>intro x hx; cases hx
 | h1 l e ih=>
  intro x hx
  rw [rA] at hx
  rw [List.length_append,List.length_singleton]
  rcases List.mem_append.1 hx with h | h
  ·have:=ih x h; omega
  ·rw [List.mem_singleton.1 h]
   have:=JU (t:=tb l) (B:=(l.length:Int)) om ih e.ag 0 om
   show 0≤wK _ _ _∧wK _ _ _≤_
   omega
theorem dpt_l (L:List Event) (p:BA):0≤rJ (tb L) p∧rJ (tb L) p≤(L.length:Int):=Km om (tb_b L) p
theorem Li {m:bp} {L:List Event} (h:T m=tb L) (hl:L.length≤100000):Low m:=fun x hx=>by
 have h1:AZ x∈T m:=List.mem_map.2 ⟨x,hx,rfl⟩
 rw [h] at h1
 have:=tb_b L _ h1
 show 0≤(AZ x).2.2∧(AZ x).2.2≤_
 omega
structure Good (L:List Event):Prop where
 uq:(L.map (·.bV)).Nodup
 cl:∀ i,i<L.length→∀ p∈(ev L i).ag,∃ j,j<i∧(ev L j).bV=p
theorem wC {L:List Event} {i:Nat} (hi:i<L.length):L[i]? = some (ev L i):=by
 unfold ev; rw [gD,gE hi]; rfl
theorem G8 {L:List Event} {i:Nat} (hi:i<L.length):ev L i∈L:=List.mem_of_getElem? (wC hi)
theorem tH {L:List Event} {e:Event} (h:e∈L):∃ i,i<L.length∧ev L i=e:=by
 obtain ⟨i,hi,rfl⟩:=List.mem_iff_getElem.1 h
 exact ⟨i,hi,by have:=wC hi; rw [gE hi] at this; exact (Option.some.inj this).symm⟩
theorem JH {L:List Event} {i:Nat} (hi:i<L.length):L.take (i+1)=L.take i++[ev L i]:=by
 rw [List.take_add_one,wC hi]; rfl
theorem zQ {κ α:Type} [DecidableEq κ]:∀ {m:List (κ×α)} {i:Nat} {k:κ} {a:α},(m.map (·.1)).Nodup→m[i]? = some (k,a)→mget m k=some a
 | [],_,_,_,_,h=>by simp at h
 | e::m,0,k,a,_,h=>by
  simp only [List.getElem?_cons_zero,Option.some.injEq] at h
  subst h; simp [mget]
 | e::m,i+1,k,a,hn,h=>by
  rw [List.map_cons,List.nodup_cons] at hn
  simp only [List.getElem?_cons_succ] at h
  have:¬ e.1=k:=fun hk=>hn.1 (by rw [hk]; exact List.mem_map.2 ⟨(k,a),List.mem_of_getElem? h,rfl⟩)
  simp only [mget,if_neg this]
  exact zQ hn.2 h
theorem AG {κ α:Type} [DecidableEq κ] {k:κ}:∀ {A B:List (κ×α)},(mget A k).isSome=true→mget (A++B) k=mget A k
 | [],_,h=>by cases h
 | e::A,B,h=>by
  simp only [mget] at h
  simp only [List.cons_append,mget]
  split
  ·rfl
  ·rename_i hn; rw [if_neg hn] at h; exact AG h
theorem tb_at {L:List Event} {i:Nat} (hi:i<L.length):(tb L)[i]? = some ((ev L i).bV,(ev L i,wK (tb (L.take i)) (ev L i).ag 0)):=by
 obtain ⟨Z,h⟩:=F2 (L.take (i+1)) (L.drop (i+1))
 rw [List.take_append_drop,JH hi,rA] at h
 have hl:(tb (L.take i)).length=i:=by rw [Hi,List.length_take]; omega
 rw [h,List.append_assoc,List.getElem?_append_right om,hl,Nat.sub_self]; rfl
theorem uM {L:List Event} (h:Good L):((tb L).map (·.1)).Nodup:=by rw [yA]; exact h.uq
theorem Gd {L:List Event} (h:Good L) {i:Nat} (hi:i<L.length):mget (tb L) (ev L i).bV=some (ev L i,wK (tb (L.take i)) (ev L i).ag 0):=zQ (uM h) (tb_at hi)
theorem yb {t t':oO}:∀ (ps:List BA) (d:Int),(∀ p∈ps,rJ t p=rJ t' p)→wK t ps d=wK t' ps d
 | [],d,_=>rfl
 | p::ps,d,h=>by
  show wK t ps (max d (rJ t p+1))=wK t' ps (max d (rJ t' p+1))
  rw [h p (List.mem_cons_self ..)]
  exact yb ps _ fun q hq=>h q (List.mem_cons_of_mem _ hq)
theorem D7 {L:List Event} (h:Good L) (i:Nat):Good (L.take i):=
 ⟨(List.Sublist.map _ (List.take_sublist i L)).nodup h.uq,fun j hj p hp=>by
  rw [List.length_take] at hj
  have e:∀ q,q<i→q<L.length→ev (L.take i) q=ev L q:=fun q h1 h2=>by
   unfold ev; rw [gD,gD,List.getElem?_take,if_pos h1]
  rw [e j om om] at hp
  obtain ⟨q,h1,h2⟩:=h.cl j om p hp
  exact ⟨q,h1,by rw [e q om om]; exact h2⟩⟩
theorem HX {L:List Event} (h:Good L) {i:Nat} (hi:i<L.length):rJ (tb L) (ev L i).bV=wK (tb L) (ev L i).ag 0:=by
 have h1:rJ (tb L) (ev L i).bV=wK (tb (L.take i)) (ev L i).ag 0:=by
  have:=Gd h hi
  show ((mget (tb L) _).map (·.2)).getD 0=_
  rw [this]; rfl
 rw [h1]
 refine yb _ _ fun p hp=>?_
 obtain ⟨j,hj,rfl⟩:=h.cl i hi p hp
 have e:ev (L.take i) j=ev L j:=by
  unfold ev; rw [gD,gD,List.getElem?_take,if_pos hj]
 have hs:=Gd (D7 h i) (i:=j) (by rw [List.length_take]; omega)
 rw [e] at hs
 obtain ⟨Z,hz⟩:=F2 (L.take i) (L.drop i)
 rw [List.take_append_drop] at hz
 unfold rJ
 rw [hz,AG (by rw [hs]; rfl)]
theorem Fy {L:List Event} {id:BA} (h:ix L id = -1):rJ (tb L) id=0:=by
 unfold rJ
 cases e:mget (tb L) id with
 | none=>rfl
 | some v=>
  exfalso
  have h1:id∈(tb L).map (·.1):=nB.2 (by rw [e]; rfl)
  rw [yA] at h1
  obtain ⟨e',he,h2⟩:=List.mem_map.1 h1
  obtain ⟨i,hi,rfl⟩:=tH he
  rcases mZ L id with ⟨_,h3⟩ | ⟨j,q,_⟩
  ·exact h3 i hi h2
  ·omega
theorem Gt {L:List Event} (h:Good L) {i:Nat} (hi:i<L.length):ix L (ev L i).bV=(i:Int):=by
 rcases mZ L (ev L i).bV with ⟨_,h3⟩ | ⟨j,q,hj,he⟩
 ·exact absurd rfl (h3 i hi)
 ·have h1:(L.map (·.bV))[i]? = some (ev L i).bV:=by rw [List.getElem?_map,wC hi]; rfl
  have h2:(L.map (·.bV))[j]? = some (ev L i).bV:=by rw [List.getElem?_map,wC hj]; exact congrArg some he
  have:j=i:=by
   have hn:=List.pairwise_iff_getElem.1 h.uq
   have li:i<(L.map (·.bV)).length:=by rw [List.length_map]; exact hi
   have lj:j<(L.map (·.bV)).length:=by rw [List.length_map]; exact hj
   rw [gE li] at h1
   rw [gE lj] at h2
   rcases Nat.lt_trichotomy i j with h3 | h3 | h3
   ·exact absurd ((Option.some.inj h1).trans (Option.some.inj h2).symm) (hn i j li lj h3)
   ·exact h3.symm
   ·exact absurd ((Option.some.inj h2).trans (Option.some.inj h1).symm) (hn j i lj li h3)
  rw [q,this]
section
variable {d:aK} (hg:Good d.fL) (hl:d.fL.length≤100000)
include hg hl
theorem Hn {i:Nat} (hi:i<d.fL.length):∀ n x:Nat,(ev d.fL i).ag.length-x=n→x≤(ev d.fL i).ag.length→(ev d.fL i).ag.length≤maxLen→∀ arr:List Int,i<arr.length→
  (∀ j,j<i→arr.getD j default=rJ (tb d.fL) (ev d.fL j).bV)→
  ∃ r:Int×Bool×List Int,El (fun k j=>dD.l1 k d (i:Int) j (x:Int) arr) r∧r.2.2=arr.set i (wK (tb d.fL) ((ev d.fL i).ag.drop x) (arr.getD i default)):=by
 intro n
 induction n with
 | zero=>
  intro x hd hx hp arr ha hj
  obtain rfl:x=(ev d.fL i).ag.length:=om
  refine ⟨(((ev d.fL i).ag.length:Int),false,arr),?_,?_⟩
  ·refine El.step (fun _ _=>by rw [dD.l1]) ?_
   rw [kg hi]
   exact El.an ⟨om,om⟩ (El.cf sM (by simpa using El.pure))
  ·rw [List.drop_length]
   show arr=arr.set i (arr.getD i default)
   rw [gD,gE ha]
   simp
 | succ n ih=>
  intro x hd hx hp arr ha hj
  have hp2:(ev d.fL i).ag.length≤9223372036854775807:=hp
  have hx2:x<(ev d.fL i).ag.length:=om
  have hpar:par (ev d.fL i) x∈(ev d.fL i).ag:=by
   unfold par; rw [gD,gE hx2]; exact List.getElem_mem hx2
  obtain ⟨j,hj1,hj2⟩:=hg.cl i hi _ hpar
  have hat:=sn (d:=d) (par (ev d.fL i) x) (by show _≤9223372036854775807; omega)
  rw [← hj2,Gt hg (show j<d.fL.length by omega),hj2] at hat
  have hdj:=dpt_l d.fL (ev d.fL j).bV
  have hv:=hj j hj1
  obtain ⟨r,h1,h2⟩:=ih (x+1) om om hp (arr.set i (max (arr.getD i default) (rJ (tb d.fL) (ev d.fL j).bV+1))) (by rw [List.length_set]; exact ha) (fun q hq=>by
   rw [gD,List.getElem?_set_ne om,← gD]; exact hj q hq)
  refine ⟨r,?_,?_⟩
  ·refine El.step (fun _ _=>by rw [dD.l1]) ?_
   rw [kg hi]
   refine El.an ⟨om,om⟩ (El.ct (dT om) (El.an ⟨om,om⟩ (El.an ⟨om,om⟩ (El.an ⟨om,om⟩ ?_))))
   rw [lX hx2]
   refine El.bind hat.el (El.an ⟨om,om⟩ (El.an ⟨om,om⟩ ?_))
   rw [aE (x:=(x:Int)+1) om om,Int.toNat_natCast,Int.toNat_natCast,hv,aE (x:=rJ (tb d.fL) (ev d.fL j).bV+1) om om]
   exact h1
  ·rw [h2,List.set_set]
   have hdr:(ev d.fL i).ag.drop x=par (ev d.fL i) x::(ev d.fL i).ag.drop (x+1):=by
    rw [List.drop_eq_getElem_cons hx2]; unfold par; rw [gD,gE hx2]; rfl
   rw [hdr]
   congr 1
   rw [gD,List.getElem?_set_self ha]
   show wK _ _ _=wK (tb d.fL) ((ev d.fL i).ag.drop (x+1)) (max (arr.getD i default) (rJ (tb d.fL) (par (ev d.fL i) x)+1))
   rw [← hj2]; rfl
theorem Ej {K:Nat} (hK:K<d.fL.length) (hp:∀ i,i<d.fL.length→(ev d.fL i).ag.length≤maxLen):∀ n x:Nat,K+1-x=n→x≤K+1→∀ arr:List Int,arr.length=K+1→
  (∀ j,j<x→arr.getD j default=rJ (tb d.fL) (ev d.fL j).bV)→(∀ j,x≤j→j≤K→arr.getD j default=0)→
  ∃ r:Int×Bool×List Int,El (fun k j=>dD.l0 k d (K:Int) j (x:Int) arr) r∧r.2.2.length=K+1∧∀ j,j≤K→r.2.2.getD j default=rJ (tb d.fL) (ev d.fL j).bV:=by
 intro n
 induction n with
 | zero=>
  intro x hd hx arr ha h1 h2
  obtain rfl:x=K+1:=om
  refine ⟨(((K+1:Nat):Int),false,arr),?_,ha,fun j hj=>h1 j om⟩
  refine El.step (fun _ _=>by rw [dD.l0]) ?_
  have:decide (((K+1:Nat):Int)≤(K:Int))=false:=dF om
  exact El.cf this (by rw [this]; exact El.pure)
 | succ n ih=>
  intro x hd hx arr ha h1 h2
  obtain ⟨r,r1,r2⟩:=Hn hg hl (i:=x) om _ 0 rfl om (hp x om) arr om h1
  rw [List.drop_zero,h2 x om om,← HX hg om] at r2
  obtain ⟨q,q1,q2⟩:=ih (x+1) om om (arr.set x (rJ (tb d.fL) (ev d.fL x).bV)) (by rw [List.length_set]; exact ha) (fun j hj=>by
   by_cases e:j=x
   ·subst e; rw [gD,List.getElem?_set_self om]; rfl
   ·rw [gD,List.getElem?_set_ne om,← gD]; exact h1 j om) (fun j h3 h4=>by
   rw [gD,List.getElem?_set_ne om,← gD]; exact h2 j om h4)
  refine ⟨q,?_,q2⟩
  refine El.step (fun _ _=>by rw [dD.l0]) ?_
  refine El.ct (dT om) (El.bind r1.diag.el ?_)
  rw [r2,aE (x:=(x:Int)+1) om om]
  exact q1
theorem FY (hp:∀ i,i<d.fL.length→(ev d.fL i).ag.length≤maxLen) (id:BA):Ev (fun k=>dD.f k d id) (rJ (tb d.fL) id):=by
 unfold dD.f
 refine Ev.bind (sn id (by show _≤9223372036854775807; omega)) ?_
 rcases mZ d.fL id with ⟨q,h⟩ | ⟨j,q,hj,he⟩
 ·rw [Fy q,q]; exact Ev.ct rfl Ev.pure
 ·obtain ⟨r,r1,r2,r3⟩:=Ej hg hl hj hp _ 0 rfl om (List.replicate (j+1) 0) sM (fun i hi=>om) (fun i _ hi=>by
   rw [gD,List.getElem?_replicate,if_pos om]; rfl)
  rw [q,aE (x:=(j:Int)+1) om om,show ((j:Int)+1).toNat=j+1 by omega]
  refine Ev.cf (dF om) (Ev.an ⟨om,om,om⟩ (Ev.bind r1.diag (Ev.an ⟨om,om⟩ (Ev.of ?_))))
  rw [Int.toNat_natCast,r3 j (Nat.le_refl _),he]
def pos (t:oO) (id:BA):Pos:=⟨rJ t id,id⟩
theorem KE (hp:∀ i,i<d.fL.length→(ev d.fL i).ag.length≤maxLen) (id:BA):Ev (fun k=>dI.f k d id) (pos (tb d.fL) id):=by
 unfold dI.f
 exact Ev.bind (FY hg hl hp id) Ev.pure
end
theorem Df (x y:Int):Ev (fun k=>bG.f k [x,y]) (if x=0 then y else x):=by
 unfold bG.f
 by_cases hx:x=0
 ·subst hx
  by_cases hy:y=0
  ·subst hy
   suffices t:El (fun k j=>bG.l0 k [0,0] j 0) (.inl (2,false)) by
    exact Ev.bind t.diag Ev.pure
   refine El.step (fun _ _=>by rw [bG.l0]) ?_
   refine El.ct rfl (El.an (of_decide_eq_true rfl) (El.cf rfl ?_))
   refine El.step (fun _ _=>by rw [bG.l0]) ?_
   refine El.ct rfl (El.an (of_decide_eq_true rfl) (El.cf rfl ?_))
   refine El.step (fun _ _=>by rw [bG.l0]) ?_
   exact El.cf rfl El.pure
  ·suffices t:El (fun k j=>bG.l0 k [0,y] j 0) (.inr y) by
    exact Ev.bind t.diag Ev.pure
   refine El.step (fun _ _=>by rw [bG.l0]) ?_
   refine El.ct rfl (El.an (of_decide_eq_true rfl) (El.cf rfl ?_))
   refine El.step (fun _ _=>by rw [bG.l0]) ?_
   exact El.ct rfl (El.an (of_decide_eq_true rfl) (El.ct (by simpa [Kd.at,aE] using hy) El.pure))
 ·rw [if_neg hx]
  suffices t:El (fun k j=>bG.l0 k [x,y] j 0) (.inr x) by
   exact Ev.bind t.diag Ev.pure
  refine El.step (fun _ _=>by rw [bG.l0]) ?_
  exact El.ct rfl (El.an (of_decide_eq_true rfl) (El.ct (by simpa [Kd.at] using hx) El.pure))
theorem vG (x y:BA):aD.f x y=some (j8 x y):=by
 unfold aD.f cmp_isNaN_string.f j8
 cases h1:dJ x y <;> cases h2:dJ y x <;> simp
def nm (x y:Int):Int:=if x<y then -1 else if y<x then 1 else 0
theorem BY (x y:Int):cD.f x y=some (nm x y):=by
 unfold cD.f cmp_isNaN_int.f nm
 by_cases h1:x<y <;> by_cases h2:y<x <;> simp [h1,h2]
end Go.Proofs.YtfknmdelgepbjaaGreatDoor
