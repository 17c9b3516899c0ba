import Derived.Test.YtelcbdmigiacpaaGreatZVC
set_option linter.all false
set_option maxRecDepth 10000
namespace Go.Proofs.YtelcbdmigiacpaaGreat
open Go Go.Sp
def ix:List Event->BA->Int
 | [],_=>-1
 | e::l,id=>if e.cC=id then 0 else if ix l id = -1 then -1 else ix l id+1
theorem Dr:∀ (l:List Event) (id:BA),FE l id (ix l id)
 | [],id=>.inl ⟨rfl,λi hi=>by simp at hi⟩
 | e::l,id=>by
  unfold ix
  by_cases hb:e.cC=id
  ·rw [if_pos hb]
   exact .inr ⟨0,rfl,sM,by simpa [ev] using hb,λi hi=>om⟩
  ·rw [if_neg hb]
   rcases Dr l id with⟨q,h⟩|⟨j,q,h1,h2,h3⟩
   ·left
    rw [q]
    refine⟨sM,λi hi=>?_⟩
    cases i with
    | zero=>simpa [ev] using hb
    | succ i=>simpa [ev] using h i (by simpa using hi)
   ·right
    rw [q]
    refine⟨j+1,by rw [if_neg om];simp,by simpa using h1,by simpa [ev] using h2,λi hi=>?_⟩
    cases i with
    | zero=>simpa [ev] using hb
    | succ i=>simpa [ev] using h3 i om
theorem nO (l:List Event) (id:BA):(ix l id = -1/\∀ i:Nat,i<l.length->(ev l i).cC≠id)\/∃ j:Nat,ix l id=(j:Int)/\j<l.length/\(ev l j).cC=id:=by
 rcases Dr l id with h | ⟨j,h1,h2,h3,_⟩
 ·exact .inl h
 ·exact .inr ⟨j,h1,h2,h3⟩
theorem sa {d:bq} (id:BA) (hl:d.fL.length<=maxLen):Ev (λk=>fh.f k d id) (ix d.fL id):=at_ev hl (Dr _ _)
def code (d:bq) (e:Event):Int:=
 if pJ e=false then 1 else if e.aj≠d.aj then 1 else if 0<=ix d.fL e.cC then 9
 else if gQ (λi=>decide (0<=ix d.fL (par e i))) 0 e.ag.length=false then 4
 else if e.ah=⟨#[]⟩ then 0 else if ix d.fL e.ah<0 then 4
 else if (ev d.fL (ix d.fL e.ah).toNat).ah≠⟨#[]⟩ then 7 else if (ev d.fL (ix d.fL e.ah).toNat).cW≠0 then 7 else 0
theorem zp {d:bq} {e:Event} (he:Event.ok e) (hl:d.fL.length<=100000):∃ r:(Int×Bool) ⊕ (bq×Int),El (λk j=>eC.l0 k d e j 0) r/\(gQ (λi=>decide (0<=ix d.fL (par e i))) 0 e.ag.length=true->∃ x,r = .inl x)/\(gQ (λi=>decide (0<=ix d.fL (par e i))) 0 e.ag.length=false->r = .inr (d,4)):=by
 have hn:e.ag.length<=9223372036854775807:=he.2.2.1.1
 have hl2:d.fL.length<=maxLen:=by show _<=9223372036854775807;omega
 obtain⟨r,h1,h2⟩:=BX (F:=λk j x=>eC.l0 k d e j (x:Int)) (p:=λi=>decide (0<=ix d.fL (par e i))) (n:=e.ag.length) (λr b=>(b=true->∃ x,r = .inl x)/\(b=false->r = .inr (d,4))) (by
  refine⟨.inl ((e.ag.length:Int),false),?_,λ_=>⟨_,rfl⟩,λh=>by cases h⟩
  refine El.step (λ_ _=>by rw [eC.l0]) ?_
  exact El.cf sM (by simpa using El.pure)) (by
  intro x hx hp
  refine⟨.inr (d,4),?_,λh=>(by cases h),λ_=>rfl⟩
  refine El.step (λ_ _=>by rw [eC.l0]) ?_
  refine El.ct (by simpa using hx) (El.aF ⟨om,om⟩ ?_)
  rw [mN hx]
  refine El.bind (sa _ hl2).el (El.ct ?_ El.pure)
  simp at hp ⊢;omega) (by
  intro x r hx hp ih
  refine El.step (λ_ _=>by rw [eC.l0]) ?_
  refine El.ct (by simpa using hx) (El.aF ⟨om,om⟩ ?_)
  rw [mN hx]
  refine El.bind (sa _ hl2).el (El.cf ?_ ?_)
  ·simp at hp ⊢;omega
  ·rw [c7 (x:=(x:Int)+1) om om];exact ih) _ 0 rfl om
 exact⟨r,h1,h2.1,h2.2⟩
theorem z6 {d:bq} {e:Event} (he:Event.ok e) (hl:d.fL.length<=100000):Ev (λk=>eC.f k d e) (if code d e=0 then ((⟨d.aj,d.fL++[e]⟩:bq),0) else (d,code d e)):=by
 have hl2:d.fL.length<=maxLen:=by show _<=9223372036854775807;omega
 obtain⟨r,h1,h2,h3⟩:=zp he hl
 unfold eC.f code
 refine Ev.bind (may2 he) ?_
 cases hm:pJ e with
 | false=>exact Ev.ct rfl (Ev.of rfl)
 | true=>
  refine Ev.cf rfl ?_
  simp only [Bool.true_eq_false,if_false]
  by_cases hr:e.aj=d.aj
  ·refine Ev.cf (by simp [hr]) (Ev.bind (sa _ hl2) ?_)
   rw [if_neg (Classical.not_not.2 hr)]
   by_cases h9:0<=ix d.fL e.cC
   ·rw [if_pos h9]
    exact Ev.ct (dT h9) (Ev.of rfl)
   ·rw [if_neg h9]
    refine Ev.cf (dF h9) (Ev.bind h1.diag ?_)
    cases ha:gQ (λi=>decide (0<=ix d.fL (par e i))) 0 e.ag.length with
    | false=>rw [h3 ha];exact Ev.of rfl
    | true=>
     obtain⟨x,rfl⟩:=h2 ha
     simp only [fall,Bool.true_eq_false,if_false]
     have fin:Ev (λk=>aF (([]:List Event).length+d.fL.length<=9223372036854775807/\(([]:List Event).length+d.fL.length)*96<=140737488355328) (aF ((([]:List Event)++d.fL).length+([e]:List Event).length<=9223372036854775807/\((([]:List Event)++d.fL).length+([e]:List Event).length)*96<=140737488355328) (some ((⟨d.aj,(([]:List Event)++d.fL)++([e]:List Event)⟩:bq),(0:Int))))) ((⟨d.aj,d.fL++[e]⟩:bq),0):=
      Ev.aF ⟨by simp;omega,by simp;omega⟩ (Ev.aF ⟨by simp;omega,by simp;omega⟩ (Ev.of sM))
     by_cases ht:e.ah=⟨#[]⟩
     ·rw [if_pos ht]
      refine Ev.bind (a:=.inl ()) (Ev.cf (by simp [ht]) Ev.pure) ?_
      simpa only [fall,if_true] using fin
     ·rw [if_neg ht]
      rcases nO d.fL e.ah with⟨q,_⟩|⟨j,q,hj,_⟩
      ·rw [if_pos (show ix d.fL e.ah<0 by omega)]
       refine Ev.bind (a:=.inr (d,4)) (Ev.ct (by simp [ht]) (Ev.bind (sa _ hl2) (Ev.ct (dT om) Ev.pure))) (Ev.of rfl)
      ·rw [if_neg (show ¬ ix d.fL e.ah<0 by omega),q,Int.toNat_natCast]
       have hh:∀ {y:Unit ⊕ (bq×Int)},Ev (λk=>aF ((0:Int)<=(j:Int)/\(j:Int)<(d.fL.length:Int)) (cond (!decide (((Event.K.at d.fL (j:Int)).ah)=eE)) (some (.inr (d,(7:Int)))) (aF ((0:Int)<=(j:Int)/\(j:Int)<(d.fL.length:Int)) (cond (((Event.K.at d.fL (j:Int)).cW) != 0) (some (.inr (d,(7:Int)))) (some (.inl ())))))) y->Ev (λk=>cond (!decide (e.ah=eE)) ((fh.f k d e.ah).bind λt206=>cond (decide (t206<0)) (some (.inr (d,4))) (aF ((0:Int)<=t206/\t206<(d.fL.length:Int)) (cond (!decide (((Event.K.at d.fL t206).ah)=eE)) (some (.inr (d,7))) (aF ((0:Int)<=t206/\t206<(d.fL.length:Int)) (cond (((Event.K.at d.fL t206).cW) != 0) (some (.inr (d,7))) (some (.inl ()))))))) (some (.inl ()))) y:=λh=>Ev.ct (by simp [ht]) (Ev.bind (a:=(j:Int)) (by rw [<- q];exact sa _ hl2) (Ev.cf (dF om) h))
       by_cases h7:(ev d.fL j).ah=⟨#[]⟩
       ·rw [if_neg (Classical.not_not.2 h7)]
        by_cases h8:(ev d.fL j).cW=0
        ·rw [if_neg (Classical.not_not.2 h8)]
         refine Ev.bind (a:=.inl ()) (hh (Ev.aF ⟨om,om⟩ (Ev.cf (by rw [oW hj];simp [h7]) (Ev.aF ⟨om,om⟩ (Ev.cf (by rw [oW hj];simp [h8]) Ev.pure))))) ?_
         simpa only [fall,if_true] using fin
        ·rw [if_pos h8]
         exact Ev.bind (a:=.inr (d,7)) (hh (Ev.aF ⟨om,om⟩ (Ev.cf (by rw [oW hj];simp [h7]) (Ev.aF ⟨om,om⟩ (Ev.ct (by rw [oW hj];simpa using h8) Ev.pure))))) (Ev.of rfl)
       ·rw [if_pos h7]
        exact Ev.bind (a:=.inr (d,7)) (hh (Ev.aF ⟨om,om⟩ (Ev.ct (by rw [oW hj];simpa using h7) Ev.pure))) (Ev.of rfl)
  ·rw [if_pos hr]
   exact Ev.ct (by simp [hr]) (Ev.of rfl)
structure Rel (m:bM) (d:bq):Prop where
 room:m.cP=d.aj
 uniq:∀ i j,i<d.fL.length->j<d.fL.length->(ev d.fL i).cC=(ev d.fL j).cC->i=j
 E8:∀ i,i<d.fL.length->∃ nd,mget m.aw (ev d.fL i).cC=some nd/\nd.fe=ev d.fL i
 Fe:∀ id,(∀ i,i<d.fL.length->(ev d.fL i).cC≠id)->mget m.aw id=none
theorem G7 (room:BA):Rel ⟨room,[]⟩ ⟨room,[]⟩:=⟨rfl,λi j h=>by simp at h,λi h=>by simp at h,λid _=>rfl⟩
theorem s7 {m:bM} {d:bq} (hr:Rel m d) (id:BA):(ix d.fL id = -1/\mget m.aw id=none)\/∃ j:Nat,ix d.fL id=(j:Int)/\j<d.fL.length/\(ev d.fL j).cC=id/\∃ nd,mget m.aw id=some nd/\nd.fe=ev d.fL j:=by
 rcases nO d.fL id with⟨q,h⟩|⟨j,q,hj,he⟩
 ·exact .inl ⟨q,hr.Fe id h⟩
 ·have:=hr.E8 j hj
  rw [he] at this
  exact .inr ⟨j,q,hj,he,this⟩
theorem yd {m:bM} {d:bq} (hr:Rel m d) (id:BA):(mget m.aw id).isNone=decide (ix d.fL id<0):=by
 rcases s7 hr id with⟨q,h⟩|⟨j,q,hj,he,nd,h,_⟩
 ·rw [q,h];rfl
 ·rw [q,h,dF om];rfl
theorem zJ {m:bM} {d:bq} {e:Event} (hr:Rel m d) (he:Event.ok e):Ev (λk=>di.f k e.ag (λa0_=>gA.f a0_ m)) (!gQ (λi=>decide (0<=ix d.fL (par e i))) 0 e.ag.length):=by
 have hn:e.ag.length<=9223372036854775807:=he.2.2.1.1
 have hf:∀ x:Nat,x<e.ag.length->gA.f (az.at e.ag (x:Int)) m=some (!decide (0<=ix d.fL (par e x))):=λx hx=>by
  unfold gA.f fa.f
  rw [mN hx,yd hr]
  simp only [Option.bind_some,Bool.not_not]
  congr 1
  rw [Bool.eq_iff_iff];simp
 obtain⟨r,h1,h2⟩:=BX (F:=λk j x=>bB.l0 k e.ag (λa0_=>gA.f a0_ m) j (x:Int)) (p:=λi=>decide (0<=ix d.fL (par e i))) (n:=e.ag.length) (λr b=>(b=true->∃ x,r = .inl x)/\(b=false->∃ x:Nat,r = .inr (x:Int))) (by
  refine⟨.inl ((e.ag.length:Int),false),?_,λ_=>⟨_,rfl⟩,λh=>by cases h⟩
  refine El.step (λ_ _=>by rw [bB.l0]) ?_
  exact El.cf sM (by simpa using El.pure)) (by
  intro x hx hp
  refine⟨.inr (x:Int),?_,λh=>(by cases h),λ_=>⟨x,rfl⟩⟩
  refine El.step (λ_ _=>by rw [bB.l0]) ?_
  refine El.ct (by simpa using hx) (El.aF ⟨om,om⟩ (El.bind (Ev.of (hf x hx)).el (El.ct ?_ El.pure)))
  rw [hp];rfl) (by
  intro x r hx hp ih
  refine El.step (λ_ _=>by rw [bB.l0]) ?_
  refine El.ct (by simpa using hx) (El.aF ⟨om,om⟩ (El.bind (Ev.of (hf x hx)).el (El.cf ?_ ?_)))
  ·rw [hp];rfl
  ·rw [c7 (x:=(x:Int)+1) om om];exact ih) _ 0 rfl om
 unfold di.f bB.f
 cases ha:gQ (λi=>decide (0<=ix d.fL (par e i))) 0 e.ag.length with
 | true=>
  obtain⟨x,rfl⟩:=h2.1 ha
  exact Ev.bind (Ev.bind h1.diag (Ev.of rfl)) (Ev.of rfl)
 | false=>
  obtain⟨x,rfl⟩:=h2.2 ha
  exact Ev.bind (Ev.bind h1.diag (Ev.of rfl)) (Ev.of sM)
theorem oA {l:List Event} {e:Event} {i:Nat} (hi:i<l.length):ev (l++[e]) i=ev l i:=by
 unfold ev
 rw [gD,gD,List.getElem?_append_left hi]
theorem rF {l:List Event} {e:Event}:ev (l++[e]) l.length=e:=by
 unfold ev
 rw [gD,List.getElem?_append_right (Nat.le_refl _)];simp
def zr (x:BA×bp):BA×(Event×Int):=(x.1,(x.2.fe,x.2.dx))
def T (m:bM):List (BA×(Event×Int)):=m.aw.map zr
def rK (t:List (BA×(Event×Int))) (p:BA):Int:=((mget t p).map (·.2)).getD 0
def wm (t:List (BA×(Event×Int))) (ps:List BA) (d:Int):Int:=ps.foldl (λd p=>max d (rK t p+1)) d
def Low (m:bM):Prop:=∀ x∈m.aw,0<=x.2.dx/\x.2.dx<=1000000
theorem zh {κ α β:Type} [DecidableEq κ] (f:α->β) (k:κ):∀ m:List (κ×α),mget (m.map λx=>(x.1,f x.2)) k=(mget m k).map f
 | []=>rfl
 | e::m=>by
  simp only [List.map_cons,mget]
  split
  ·rfl
  ·exact zh f k m
theorem yz (m:bM) (k:BA):mget (T m) k=(mget m.aw k).map λnd=>(nd.fe,nd.dx):=zh (λnd:bp=>(nd.fe,nd.dx)) k m.aw
theorem Ga {m m':bM} (h:T m'=T m) (id:BA):(mget m'.aw id).map (·.fe)=(mget m.aw id).map (·.fe):=by
 have h1:=yz m id
 have h2:=yz m' id
 rw [h,h1] at h2
 have:=congrArg (Option.map Prod.fst) h2
 simp only [Option.map_map] at this
 exact this.symm
theorem sI {κ α:Type} [DecidableEq κ] {k:κ} {a:α}:∀ {m:List (κ×α)},mget m k=none->mput m k a=m++[(k,a)]
 | [],_=>rfl
 | e::m,h=>by
  simp only [mget] at h
  split at h
  ·cases h
  ·rename_i hn
   simp only [mput,if_neg hn,List.cons_append,sI h]
theorem r8 {κ α β:Type} [DecidableEq κ] (f:κ×α->β) {k:κ} {a a':α}:∀ {m:List (κ×α)},mget m k=some a->f (k,a')=f (k,a)->(mput m k a').map f=m.map f
 | [],h,_=>by cases h
 | e::m,h,hf=>by
  simp only [mget] at h
  simp only [mput]
  split
  ·rename_i hk
   rw [if_pos hk] at h
   cases h
   rw [List.map_cons,List.map_cons,hf,<- hk]
  ·rename_i hn
   rw [if_neg hn] at h
   rw [List.map_cons,List.map_cons,r8 f h hf]
theorem sc {κ α:Type} [DecidableEq κ] {k:κ} {a:α}:∀ {m:List (κ×α)},mget m k=some a->(k,a)∈m
 | [],h=>by cases h
 | e::m,h=>by
  simp only [mget] at h
  split at h
  ·rename_i hk;cases h;rw [<- hk];exact List.mem_cons_self ..
  ·exact List.mem_cons_of_mem _ (sc h)
theorem low_T {m m':bM} (h:T m'=T m) (hb:Low m):Low m':=λx hx=>by
 have h1:zr x∈T m':=List.mem_map.2 ⟨x,hx,rfl⟩
 rw [h] at h1
 obtain⟨y,hy,e⟩:=List.mem_map.1 h1
 have:=hb y hy
 simp only [zr,Prod.mk.injEq] at e
 rw [<- e.2.2];exact this
theorem mark2 {e:Event} (he:Event.ok e):∀ n x,e.ag.length-x=n->x<=e.ag.length->∀ (dep:Int) (m:bM),(∀ i,i<e.ag.length->(mget m.aw (par e i)).isSome=true)->Low m->
  ∃ r:Int×Bool×Int×bM,El (λk j=>dag_Dag_Add.l0 k e j (x:Int) dep m) r/\r.2.2.2.cP=m.cP/\r.2.2.1=wm (T m) (e.ag.drop x) dep/\T r.2.2.2=T m:=by
 have hn:e.ag.length<=9223372036854775807:=he.2.2.1.1
 intro n
 induction n with
 | zero=>
  intro x hd hx dep m hm hb
  obtain rfl:x=e.ag.length:=om
  refine⟨((e.ag.length:Int),false,dep,m),?_,rfl,by rw [List.drop_length];rfl,rfl⟩
  refine El.step (λ_ _=>by rw [dag_Dag_Add.l0]) ?_
  exact El.cf sM (by simpa using El.pure)
 | succ n ih=>
  intro x hd hx dep m hm hb
  have hx2:x<e.ag.length:=om
  obtain⟨nd,hnd⟩:=Option.isSome_iff_exists.1 (hm x hx2)
  have hg:(mget m.aw (par e x)).getD default=nd:=by rw [hnd];rfl
  have hl:0<=nd.dx/\nd.dx<=1000000:=hb _ (sc hnd)
  have key:T (⟨m.cP,mput m.aw (par e x) (⟨nd.fe,nd.dx,true⟩:bp)⟩:bM)=T m:=r8 zr hnd rfl
  have hsome:∀ i,i<e.ag.length->(mget (mput m.aw (par e x) (⟨nd.fe,nd.dx,true⟩:bp)) (par e i)).isSome=true:=λi hi=>by
   have h4:=hm i hi
   rw [ir]
   split
   ·rfl
   ·exact h4
  obtain⟨r,h1,h2,h3,h4⟩:=ih (x+1) om om (max dep (aE (nd.dx+1))) (⟨m.cP,mput m.aw (par e x) (⟨nd.fe,nd.dx,true⟩:bp)⟩:bM) hsome (low_T key hb)
  refine⟨r,?_,h2,?_,h4.trans key⟩
  ·refine El.step (λ_ _=>by rw [dag_Dag_Add.l0]) ?_
   refine El.ct (by simpa using hx2) (El.aF ⟨om,om⟩ ?_)
   rw [mN hx2,hg]
   refine El.aF (hm x hx2) ?_
   rw [c7 (x:=(x:Int)+1) om om]
   exact h1
  ·have hdr:e.ag.drop x=par e x::e.ag.drop (x+1):=by
    rw [List.drop_eq_getElem_cons hx2];unfold par;rw [gD,gE hx2];rfl
   have hd2:rK (T m) (par e x)=nd.dx:=by unfold rK;rw [yz,hnd];rfl
   rw [h3,key,hdr,c7 (x:=nd.dx+1) om om]
   show _=wm (T m) (e.ag.drop (x+1)) (max dep (rK (T m) (par e x)+1))
   rw [hd2]
theorem Hg {m:bM} {d:bq} {e:Event} (hr:Rel m d) (he:Event.ok e) (hb:Low m):∃ m',Ev (λk=>dag_Dag_Add.f k m e) (code d e,m')/\(code d e≠0->m'=m)/\(code d e=0->Rel m' ⟨d.aj,d.fL++[e]⟩/\T m'=T m++[(e.cC,(e,wm (T m) e.ag 0))]/\∃ r,El (λk j=>dag_Dag_Add.l0 k e j ((0:Nat):Int) 0 m) r/\m'.aw=mput r.2.2.2.aw e.cC (⟨e,r.2.2.1,false⟩:bp)):=by
 unfold dag_Dag_Add.f code
 cases hm:pJ e with
 | false=>
  exact⟨m,Ev.bind (F0 he) (Ev.ct (by rw [hm];rfl) (Ev.of rfl)),λ_=>rfl,λh=>(by cases h)⟩
 | true=>
  simp only [Bool.true_eq_false,if_false]
  by_cases hroom:e.aj=d.aj
  ·rw [if_neg (Classical.not_not.2 hroom)]
   by_cases h9:0<=ix d.fL e.cC
   ·rw [if_pos h9]
    refine⟨m,Ev.bind (F0 he) (Ev.cf (by rw [hm];rfl) (Ev.cf (by rw [hr.room];simp [hroom]) (Ev.bind (Ev.of rfl) (Ev.ct ?_ (Ev.of rfl))))),λ_=>rfl,λh=>(by cases h)⟩
    rw [yd hr,dF om];rfl
   ·rw [if_neg h9]
    have pre:∀ {y:Int×bM} {G:Nat->Option (Int×bM)},(gQ (λi=>decide (0<=ix d.fL (par e i))) 0 e.ag.length=true->Ev G y)->(gQ (λi=>decide (0<=ix d.fL (par e i))) 0 e.ag.length=false->y=(4,m))->Ev (λk=>(eh.f k e).bind λt497=>cond (!t497) (some (1,m)) (cond (!decide (e.aj=m.cP)) (some (1,m)) ((fa.f m e.cC).bind λt502=>cond t502 (some (9,m)) ((di.f k e.ag (λa0_=>gA.f a0_ m)).bind λt505=>cond t505 (some (4,m)) (G k))))) y:=λ{y G} h h0=>by
     refine Ev.bind (F0 he) (Ev.cf (by rw [hm];rfl) (Ev.cf (by rw [hr.room];simp [hroom]) (Ev.bind (Ev.of rfl) (Ev.cf ?_ (Ev.bind (zJ hr he) ?_)))))
     ·rw [yd hr,dT om];rfl
     ·cases ha:gQ (λi=>decide (0<=ix d.fL (par e i))) 0 e.ag.length with
      | true=>exact Ev.cf rfl (h ha)
      | false=>rw [h0 ha];exact Ev.ct rfl (Ev.of rfl)
    cases ha:gQ (λi=>decide (0<=ix d.fL (par e i))) 0 e.ag.length with
    | false=>exact⟨m,pre (λh'=>absurd (ha.symm.trans h') dc) (λ_=>rfl),λ_=>rfl,λh=>(by cases h)⟩
    | true=>
     simp only [Bool.true_eq_false,if_false]
     have hall:∀ i,i<e.ag.length->(mget m.aw (par e i)).isSome=true:=λi hi=>by
      have h1:=mO.1 ha i om hi
      rcases s7 hr (par e i) with⟨q,_⟩|⟨j,q,_,_,nd,h,_⟩
      ·simp [q] at h1
      ·rw [h];rfl
     obtain⟨r,l1,l2,l4,l5⟩:=mark2 he _ 0 rfl om 0 m hall hb
     have l3:=Ga l5
     have hnew:∀ i,i<d.fL.length->(ev d.fL i).cC≠e.cC:=λi hi=>by
      rcases nO d.fL e.cC with⟨_,h⟩|⟨j,q,_⟩
      ·exact h i hi
      ·omega
     have own:jF.f e=some e:=by
      have h4:e.ag.length<=4:=by
       have h5:=hm
       unfold pJ at h5;simp at h5;exact h5.2.2.2.1
      unfold jF.f ey.f
      simp only [aF]
      rw [if_pos ⟨om,om⟩];rfl
     have fin:Ev (λk=>(jF.f e).bind λt509=>(dag_Dag_Add.l0 k e k 0 0 m).bind λ(p512:Int×Bool×Int×bM)=>some ((0:Int),(⟨p512.2.2.2.cP,mput p512.2.2.2.aw e.cC (⟨t509,p512.2.2.1,false⟩:bp)⟩:bM))) (0,(⟨r.2.2.2.cP,mput r.2.2.2.aw e.cC (⟨e,r.2.2.1,false⟩:bp)⟩:bM)):=
      Ev.bind (Ev.of own) (Ev.bind l1.diag Ev.pure)
     have rel:Rel (⟨r.2.2.2.cP,mput r.2.2.2.aw e.cC (⟨e,r.2.2.1,false⟩:bp)⟩:bM) ⟨d.aj,d.fL++[e]⟩:=by
      refine⟨l2.trans hr.room,λi j hi hj hij=>?_,λi hi=>?_,λid hid=>?_⟩
      ·simp only [List.length_append,List.length_singleton] at hi hj
       rcases Nat.lt_or_ge i d.fL.length with h1 | h1 <;> rcases Nat.lt_or_ge j d.fL.length with h2 | h2
       ·rw [oA h1,oA h2] at hij;exact hr.uniq i j h1 h2 hij
       ·obtain rfl:j=d.fL.length:=om
        rw [oA h1,rF] at hij;exact absurd hij (hnew i h1)
       ·obtain rfl:i=d.fL.length:=om
        rw [rF,oA h2] at hij;exact absurd hij.symm (hnew j h2)
       ·omega
      ·simp only [List.length_append,List.length_singleton] at hi
       rcases Nat.lt_or_ge i d.fL.length with h1 | h1
       ·rw [oA h1]
        obtain⟨nd,g1,g2⟩:=hr.E8 i h1
        have:=l3 (ev d.fL i).cC
        rw [g1] at this
        simp only [ir,if_neg (λh=>hnew i h1 h.symm:¬ e.cC=(ev d.fL i).cC)]
        cases h5:mget r.2.2.2.aw (ev d.fL i).cC with
        | none=>rw [h5] at this;cases this
        | some v=>rw [h5] at this;exact⟨v,rfl,(Option.some.inj this).trans g2⟩
       ·obtain rfl:i=d.fL.length:=om
        rw [rF]
        exact⟨⟨e,r.2.2.1,false⟩,by simp only [ir,if_true],rfl⟩
      ·have h1:e.cC≠id:=by have:=hid d.fL.length sM;rwa [rF] at this
       simp only [ir,if_neg h1]
       have h2:=hr.Fe id λi hi=>by have:=hid i (by simp;omega);rwa [oA hi] at this
       have:=l3 id
       rw [h2] at this
       cases h5:mget r.2.2.2.aw id with
       | none=>rfl
       | some v=>rw [h5] at this;cases this
     have relT:T (⟨r.2.2.2.cP,mput r.2.2.2.aw e.cC (⟨e,r.2.2.1,false⟩:bp)⟩:bM)=T m++[(e.cC,(e,wm (T m) e.ag 0))]:=by
      have hn:mget r.2.2.2.aw e.cC=none:=by
       have h2:=hr.Fe e.cC hnew
       have:=l3 e.cC
       rw [h2] at this
       cases h5:mget r.2.2.2.aw e.cC with
       | none=>rfl
       | some v=>rw [h5] at this;cases this
      show(mput r.2.2.2.aw e.cC (⟨e,r.2.2.1,false⟩:bp)).map zr=_
      rw [sI hn,List.map_append]
      show T r.2.2.2++[(e.cC,(e,r.2.2.1))]=_
      rw [l5,l4,List.drop_zero]
     by_cases ht:e.ah=⟨#[]⟩
     ·rw [if_pos ht]
      refine⟨_,pre (λ_=>Ev.bind (a:=.inl ()) (Ev.cf (by simp [ht]) Ev.pure) ?_) (λh'=>absurd (ha.symm.trans h') dc),λh=>absurd rfl h,λ_=>⟨rel,relT,r,l1,rfl⟩⟩
      simpa only [fall] using fin
     ·rw [if_neg ht]
      rcases s7 hr e.ah with⟨q,h⟩|⟨j,q,hj,_,nd,h,hnd⟩
      ·rw [if_pos (show ix d.fL e.ah<0 by omega)]
       refine⟨m,pre (λ_=>Ev.bind (a:=.inr (4,m)) (Ev.ct (by simp [ht]) (Ev.ct (by rw [h];rfl) Ev.pure)) (Ev.eq Ev.pure λ_=>rfl)) (λh'=>absurd (ha.symm.trans h') dc),λ_=>rfl,λh=>(by cases h)⟩
      ·rw [if_neg (show ¬ ix d.fL e.ah<0 by omega),q,Int.toNat_natCast,<- hnd]
       by_cases h7:nd.fe.ah=⟨#[]⟩
       ·rw [if_neg (Classical.not_not.2 h7)]
        by_cases h8:nd.fe.cW=0
        ·rw [if_neg (Classical.not_not.2 h8)]
         refine⟨_,pre (λ_=>Ev.bind (a:=.inl ()) (Ev.ct (by simp [ht]) (Ev.cf (by rw [h];rfl) (Ev.aF (by rw [h];rfl) (Ev.cf (by rw [h];simp [h7]) (Ev.cf (by rw [h];simp [h8]) Ev.pure))))) ?_) (λh'=>absurd (ha.symm.trans h') dc),λh=>absurd rfl h,λ_=>⟨rel,relT,r,l1,rfl⟩⟩
         simpa only [fall] using fin
        ·rw [if_pos h8]
         refine⟨m,pre (λ_=>Ev.bind (a:=.inr (7,m)) (Ev.ct (by simp [ht]) (Ev.cf (by rw [h];rfl) (Ev.aF (by rw [h];rfl) (Ev.cf (by rw [h];simp [h7]) (Ev.ct (by rw [h];simpa using h8) Ev.pure))))) (Ev.eq Ev.pure λ_=>rfl)) (λh'=>absurd (ha.symm.trans h') dc),λ_=>rfl,λh=>(by cases h)⟩
       ·rw [if_pos h7]
        refine⟨m,pre (λ_=>Ev.bind (a:=.inr (7,m)) (Ev.ct (by simp [ht]) (Ev.cf (by rw [h];rfl) (Ev.aF (by rw [h];rfl) (Ev.ct (by rw [h];simpa using h7) Ev.pure)))) (Ev.eq Ev.pure λ_=>rfl)) (λh'=>absurd (ha.symm.trans h') dc),λ_=>rfl,λh=>(by cases h)⟩
  ·rw [if_pos hroom]
   exact⟨m,Ev.bind (F0 he) (Ev.cf (by rw [hm];rfl) (Ev.ct (by rw [hr.room];simp [hroom]) (Ev.of rfl))),λ_=>rfl,λh=>(by cases h)⟩
abbrev qu:=List (BA×(Event×Int))
theorem sB {α:Type} {P:List α->Prop} (h0:P []) (h1:∀ l e,P l->P (l++[e])) (l:List α):P l:=by
 have:∀ r:List α,P r.reverse:=λr=>by
  induction r with
  | nil=>exact h0
  | cons e r ih=>rw [List.reverse_cons];exact h1 _ _ ih
 rw [<- List.reverse_reverse l];exact this _
def DU (l:List BA) (s:BA):Bool:=l.any λx=>decide (x=s)
theorem BU {l:List BA} {s:BA}:DU l s=true↔s∈l:=by simp [DU]
theorem H5 {l:List BA} {s:BA} (h:s ∉ l):DU l s=false:=by
 cases e:DU l s with
 | false=>rfl
 | true=>exact absurd (BU.1 e) h
def tI (L:List Event) (id:BA):Bool:=L.any λe=>DU e.ag id
def tstep (t:qu) (e:Event):qu:=t++[(e.cC,(e,wm t e.ag 0))]
def tb (L:List Event):qu:=L.foldl tstep []
theorem rD (L:List Event) (e:Event):tb (L++[e])=tb L++[(e.cC,(e,wm (tb L) e.ag 0))]:=by unfold tb;rw [List.foldl_append];rfl
theorem xz (L:List Event):(tb L).map (·.1)=L.map (·.cC):=by
 induction L using sB with
 | h0=>rfl
 | h1 l e ih=>rw [rD,List.map_append,List.map_append,ih];rfl
theorem AB (L:List Event):(tb L).map (·.2.1)=L:=by
 induction L using sB with
 | h0=>rfl
 | h1 l e ih=>rw [rD,List.map_append,ih];rfl
theorem Ep (L:List Event):(tb L).length=L.length:=by
 have:=congrArg List.length (AB L);rwa [List.length_map] at this
theorem Em (A B:List Event):∃ Z,tb (A++B)=tb A++Z:=by
 induction B using sB with
 | h0=>exact⟨[],sM⟩
 | h1 l e ih=>
  obtain⟨Z,h⟩:=ih
  exact⟨Z++[(e.cC,(e,wm (tb (A++l)) e.ag 0))],by rw [<- List.append_assoc,rD,h,List.append_assoc]⟩
theorem Hr {t:qu} {B:Int} (hB:0<=B) (h:∀ x∈t,0<=x.2.2/\x.2.2<=B) (p:BA):0<=rK t p/\rK t p<=B:=by
 unfold rK
 cases e:mget t p with
 | none=>exact⟨Int.le_refl _,hB⟩
 | some v=>exact h _ (sc e)
theorem Hz {t:qu} {B:Int} (hB:0<=B) (h:∀ x∈t,0<=x.2.2/\x.2.2<=B):∀ (ps:List BA) (d:Int),0<=d/\d<=B+1->0<=wm t ps d/\wm t ps d<=B+1
 | [],d,hd=>hd
 | p::ps,d,hd=>by
  have:=Hr hB h p
  exact Hz hB h ps (max d (rK t p+1)) ⟨om,om⟩
theorem tb_b (L:List Event):∀ x∈tb L,0<=x.2.2/\x.2.2<=(L.length:Int):=by
 induction L using sB with
 | h0=>intro x hx;cases hx
 | h1 l e ih=>
  intro x hx
  rw [rD] at hx
  rw [List.length_append,List.length_singleton]
  rcases List.mem_append.1 hx with h | h
  ·have:=ih x h;omega
  ·rw [List.mem_singleton.1 h]
   have:=Hz (t:=tb l) (B:=(l.length:Int)) om ih e.ag 0 om
   show 0<=wm _ _ _/\wm _ _ _<=_
   omega
theorem dpt_l (L:List Event) (p:BA):0<=rK (tb L) p/\rK (tb L) p<=(L.length:Int):=Hr om (tb_b L) p
theorem Is {m:bM} {L:List Event} (h:T m=tb L) (hl:L.length<=100000):Low m:=λx hx=>by
 have h1:zr x∈T m:=List.mem_map.2 ⟨x,hx,rfl⟩
 rw [h] at h1
 have:=tb_b L _ h1
 show 0<=(zr x).2.2/\(zr x).2.2<=_
 omega
structure Good (L:List Event):Prop where
 uq:(L.map (·.cC)).Nodup
 cl:∀ i,i<L.length->∀ p∈(ev L i).ag,∃ j,j<i/\(ev L j).cC=p
theorem uQ {L:List Event} {i:Nat} (hi:i<L.length):L[i]? = some (ev L i):=by
 unfold ev;rw [gD,gE hi];rfl
theorem zU {L:List Event} {i:Nat} (hi:i<L.length):ev L i∈L:=List.mem_of_getElem? (uQ hi)
theorem vl {L:List Event} {e:Event} (h:e∈L):∃ i,i<L.length/\ev L i=e:=by
 obtain⟨i,hi,rfl⟩:=List.mem_iff_getElem.1 h
 exact⟨i,hi,by have:=uQ hi;rw [gE hi] at this;exact(Option.some.inj this).symm⟩
theorem F9 {L:List Event} {i:Nat} (hi:i<L.length):L.take (i+1)=L.take i++[ev L i]:=by
 rw [List.take_add_one,uQ hi];rfl
theorem yl {κ α:Type} [DecidableEq κ]:∀ {m:List (κ×α)} {i:Nat} {k:κ} {a:α},(m.map (·.1)).Nodup->m[i]? = some (k,a)->mget m k=some a
 | [],_,_,_,_,h=>by simp at h
 | e::m,0,k,a,_,h=>by
  simp only [List.getElem?_cons_zero,Option.some.injEq] at h
  subst h;simp [mget]
 | e::m,i+1,k,a,hn,h=>by
  rw [List.map_cons,List.nodup_cons] at hn
  simp only [List.getElem?_cons_succ] at h
  have:¬ e.1=k:=λhk=>hn.1 (by rw [hk];exact List.mem_map.2 ⟨(k,a),List.mem_of_getElem? h,rfl⟩)
  simp only [mget,if_neg this]
  exact yl hn.2 h
theorem zG {κ α:Type} [DecidableEq κ] {k:κ}:∀ {A B:List (κ×α)},(mget A k).isSome=true->mget (A++B) k=mget A k
 | [],_,h=>by cases h
 | e::A,B,h=>by
  simp only [mget] at h
  simp only [List.cons_append,mget]
  split
  ·rfl
  ·rename_i hn;rw [if_neg hn] at h;exact zG h
theorem tb_at {L:List Event} {i:Nat} (hi:i<L.length):(tb L)[i]? = some ((ev L i).cC,(ev L i,wm (tb (L.take i)) (ev L i).ag 0)):=by
 obtain⟨Z,h⟩:=Em (L.take (i+1)) (L.drop (i+1))
 rw [List.take_append_drop,F9 hi,rD] at h
 have hl:(tb (L.take i)).length=i:=by rw [Ep,List.length_take];omega
 rw [h,List.append_assoc,List.getElem?_append_right om,hl,Nat.sub_self];rfl
theorem uo {L:List Event} (h:Good L):((tb L).map (·.1)).Nodup:=by rw [xz];exact h.uq
theorem DA {L:List Event} (h:Good L) {i:Nat} (hi:i<L.length):mget (tb L) (ev L i).cC=some (ev L i,wm (tb (L.take i)) (ev L i).ag 0):=yl (uo h) (tb_at hi)
theorem wN {t t':qu}:∀ (ps:List BA) (d:Int),(∀ p∈ps,rK t p=rK t' p)->wm t ps d=wm t' ps d
 | [],d,_=>rfl
 | p::ps,d,h=>by
  show wm t ps (max d (rK t p+1))=wm t' ps (max d (rK t' p+1))
  rw [h p (List.mem_cons_self ..)]
  exact wN ps _ λq hq=>h q (List.mem_cons_of_mem _ hq)
theorem Ce {L:List Event} (h:Good L) (i:Nat):Good (L.take i):=
 ⟨(List.Sublist.map _ (List.take_sublist i L)).nodup h.uq,λj hj p hp=>by
  rw [List.length_take] at hj
  have e:∀ q,q<i->q<L.length->ev (L.take i) q=ev L q:=λq h1 h2=>by
   unfold ev;rw [gD,gD,List.getElem?_take,if_pos h1]
  rw [e j om om] at hp
  obtain⟨q,h1,h2⟩:=h.cl j om p hp
  exact⟨q,h1,by rw [e q om om];exact h2⟩⟩
theorem GZ {L:List Event} (h:Good L) {i:Nat} (hi:i<L.length):rK (tb L) (ev L i).cC=wm (tb L) (ev L i).ag 0:=by
 have h1:rK (tb L) (ev L i).cC=wm (tb (L.take i)) (ev L i).ag 0:=by
  have:=DA h hi
  show((mget (tb L) _).map (·.2)).getD 0=_
  rw [this];rfl
 rw [h1]
 refine wN _ _ λp hp=>?_
 obtain⟨j,hj,rfl⟩:=h.cl i hi p hp
 have e:ev (L.take i) j=ev L j:=by
  unfold ev;rw [gD,gD,List.getElem?_take,if_pos hj]
 have hs:=DA (Ce h i) (i:=j) (by rw [List.length_take];omega)
 rw [e] at hs
 obtain⟨Z,hz⟩:=Em (L.take i) (L.drop i)
 rw [List.take_append_drop] at hz
 unfold rK
 rw [hz,zG (by rw [hs];rfl)]
theorem DK {L:List Event} {id:BA} (h:ix L id = -1):rK (tb L) id=0:=by
 unfold rK
 cases e:mget (tb L) id with
 | none=>rfl
 | some v=>
  exfalso
  have h1:id∈(tb L).map (·.1):=np.2 (by rw [e];rfl)
  rw [xz] at h1
  obtain⟨e',he,h2⟩:=List.mem_map.1 h1
  obtain⟨i,hi,rfl⟩:=vl he
  rcases nO L id with⟨_,h3⟩|⟨j,q,_⟩
  ·exact h3 i hi h2
  ·omega
theorem ix_of {L:List Event} (h:Good L) {i:Nat} (hi:i<L.length):ix L (ev L i).cC=(i:Int):=by
 rcases nO L (ev L i).cC with⟨_,h3⟩|⟨j,q,hj,he⟩
 ·exact absurd rfl (h3 i hi)
 ·have h1:(L.map (·.cC))[i]? = some (ev L i).cC:=by rw [List.getElem?_map,uQ hi];rfl
  have h2:(L.map (·.cC))[j]? = some (ev L i).cC:=by rw [List.getElem?_map,uQ hj];exact congrArg some he
  have:j=i:=by
   have hn:=List.pairwise_iff_getElem.1 h.uq
   have li:i<(L.map (·.cC)).length:=by rw [List.length_map];exact hi
   have lj:j<(L.map (·.cC)).length:=by rw [List.length_map];exact hj
   rw [gE li] at h1
   rw [gE lj] at h2
   rcases Nat.lt_trichotomy i j with h3 | h3 | h3
   ·exact absurd ((Option.some.inj h1).trans (Option.some.inj h2).symm) (hn i j li lj h3)
   ·exact h3.symm
   ·exact absurd ((Option.some.inj h2).trans (Option.some.inj h1).symm) (hn j i lj li h3)
  rw [q,this]
section
variable {d:bq} (hg:Good d.fL) (hl:d.fL.length<=100000)
include hg hl
theorem DE {i:Nat} (hi:i<d.fL.length):∀ n x:Nat,(ev d.fL i).ag.length-x=n->x<=(ev d.fL i).ag.length->(ev d.fL i).ag.length<=maxLen->∀ arr:List Int,i<arr.length->
  (∀ j,j<i->arr.getD j default=rK (tb d.fL) (ev d.fL j).cC)->
  ∃ r:Int×Bool×List Int,El (λk j=>eg.l1 k d (i:Int) j (x:Int) arr) r/\r.2.2=arr.set i (wm (tb d.fL) ((ev d.fL i).ag.drop x) (arr.getD i default)):=by
 intro n
 induction n with
 | zero=>
  intro x hd hx hp arr ha hj
  obtain rfl:x=(ev d.fL i).ag.length:=om
  refine⟨(((ev d.fL i).ag.length:Int),false,arr),?_,?_⟩
  ·refine El.step (λ_ _=>by rw [eg.l1]) ?_
   rw [oW hi]
   exact El.aF ⟨om,om⟩ (El.cf sM (by simpa using El.pure))
  ·rw [List.drop_length]
   show arr=arr.set i (arr.getD i default)
   rw [gD,gE ha]
   simp
 | succ n ih=>
  intro x hd hx hp arr ha hj
  have hp2:(ev d.fL i).ag.length<=9223372036854775807:=hp
  have hx2:x<(ev d.fL i).ag.length:=om
  have hpar:par (ev d.fL i) x∈(ev d.fL i).ag:=by
   unfold par;rw [gD,gE hx2];exact List.getElem_mem hx2
  obtain⟨j,hj1,hj2⟩:=hg.cl i hi _ hpar
  have hat:=sa (d:=d) (par (ev d.fL i) x) (by show _<=9223372036854775807;omega)
  rw [<- hj2,ix_of hg (show j<d.fL.length by omega),hj2] at hat
  have hdj:=dpt_l d.fL (ev d.fL j).cC
  have hv:=hj j hj1
  obtain⟨r,h1,h2⟩:=ih (x+1) om om hp (arr.set i (max (arr.getD i default) (rK (tb d.fL) (ev d.fL j).cC+1))) (by rw [List.length_set];exact ha) (λq hq=>by
   rw [gD,List.getElem?_set_ne om,<- gD];exact hj q hq)
  refine⟨r,?_,?_⟩
  ·refine El.step (λ_ _=>by rw [eg.l1]) ?_
   rw [oW hi]
   refine El.aF ⟨om,om⟩ (El.ct (dT om) (El.aF ⟨om,om⟩ (El.aF ⟨om,om⟩ (El.aF ⟨om,om⟩ ?_))))
   rw [mN hx2]
   refine El.bind hat.el (El.aF ⟨om,om⟩ (El.aF ⟨om,om⟩ ?_))
   rw [c7 (x:=(x:Int)+1) om om,Int.toNat_natCast,Int.toNat_natCast,hv,c7 (x:=rK (tb d.fL) (ev d.fL j).cC+1) om om]
   exact h1
  ·rw [h2,List.set_set]
   have hdr:(ev d.fL i).ag.drop x=par (ev d.fL i) x::(ev d.fL i).ag.drop (x+1):=by
    rw [List.drop_eq_getElem_cons hx2];unfold par;rw [gD,gE hx2];rfl
   rw [hdr]
   congr 1
   rw [gD,List.getElem?_set_self ha]
   show wm _ _ _=wm (tb d.fL) ((ev d.fL i).ag.drop (x+1)) (max (arr.getD i default) (rK (tb d.fL) (par (ev d.fL i) x)+1))
   rw [<- hj2];rfl
theorem Cg {K:Nat} (hK:K<d.fL.length) (hp:∀ i,i<d.fL.length->(ev d.fL i).ag.length<=maxLen):∀ n x:Nat,K+1-x=n->x<=K+1->∀ arr:List Int,arr.length=K+1->
  (∀ j,j<x->arr.getD j default=rK (tb d.fL) (ev d.fL j).cC)->(∀ j,x<=j->j<=K->arr.getD j default=0)->
  ∃ r:Int×Bool×List Int,El (λk j=>eg.l0 k d (K:Int) j (x:Int) arr) r/\r.2.2.length=K+1/\∀ j,j<=K->r.2.2.getD j default=rK (tb d.fL) (ev d.fL j).cC:=by
 intro n
 induction n with
 | zero=>
  intro x hd hx arr ha h1 h2
  obtain rfl:x=K+1:=om
  refine⟨(((K+1:Nat):Int),false,arr),?_,ha,λj hj=>h1 j om⟩
  refine El.step (λ_ _=>by rw [eg.l0]) ?_
  have:decide (((K+1:Nat):Int)<=(K:Int))=false:=dF om
  exact El.cf this (by rw [this];exact El.pure)
 | succ n ih=>
  intro x hd hx arr ha h1 h2
  obtain⟨r,r1,r2⟩:=DE hg hl (i:=x) om _ 0 rfl om (hp x om) arr om h1
  rw [List.drop_zero,h2 x om om,<- GZ hg om] at r2
  obtain⟨q,q1,q2⟩:=ih (x+1) om om (arr.set x (rK (tb d.fL) (ev d.fL x).cC)) (by rw [List.length_set];exact ha) (λj hj=>by
   by_cases e:j=x
   ·subst e;rw [gD,List.getElem?_set_self om];rfl
   ·rw [gD,List.getElem?_set_ne om,<- gD];exact h1 j om) (λj h3 h4=>by
   rw [gD,List.getElem?_set_ne om,<- gD];exact h2 j om h4)
  refine⟨q,?_,q2⟩
  refine El.step (λ_ _=>by rw [eg.l0]) ?_
  refine El.ct (dT om) (El.bind r1.diag.el ?_)
  rw [r2,c7 (x:=(x:Int)+1) om om]
  exact q1
theorem Dp (hp:∀ i,i<d.fL.length->(ev d.fL i).ag.length<=maxLen) (id:BA):Ev (λk=>eg.f k d id) (rK (tb d.fL) id):=by
 unfold eg.f
 refine Ev.bind (sa id (by show _<=9223372036854775807;omega)) ?_
 rcases nO d.fL id with⟨q,h⟩|⟨j,q,hj,he⟩
 ·rw [DK q,q];exact Ev.ct rfl Ev.pure
 ·obtain⟨r,r1,r2,r3⟩:=Cg hg hl hj hp _ 0 rfl om (List.replicate (j+1) 0) sM (λi hi=>om) (λi _ hi=>by
   rw [gD,List.getElem?_replicate,if_pos om];rfl)
  rw [q,c7 (x:=(j:Int)+1) om om,show((j:Int)+1).toNat=j+1 by omega]
  refine Ev.cf (dF om) (Ev.aF ⟨om,om,om⟩ (Ev.bind r1.diag (Ev.aF ⟨om,om⟩ (Ev.of ?_))))
  rw [Int.toNat_natCast,r3 j (Nat.le_refl _),he]
def pos (t:qu) (id:BA):Pos:=⟨rK t id,id⟩
theorem IM (hp:∀ i,i<d.fL.length->(ev d.fL i).ag.length<=maxLen) (id:BA):Ev (λk=>kh.f k d id) (pos (tb d.fL) id):=by
 unfold kh.f
 exact Ev.bind (Dp hg hl hp id) Ev.pure
end
theorem HI (x y:Int):Ev (λk=>b8.f k [x,y]) (if x=0 then y else x):=by
 unfold b8.f
 by_cases hx:x=0
 ·subst hx
  by_cases hy:y=0
  ·subst hy
   suffices t:El (λk j=>b8.l0 k [0,0] j 0) (.inl (2,false)) by
    exact Ev.bind t.diag Ev.pure
   refine El.step (λ_ _=>by rw [b8.l0]) ?_
   refine El.ct rfl (El.aF (of_decide_eq_true rfl) (El.cf rfl ?_))
   refine El.step (λ_ _=>by rw [b8.l0]) ?_
   refine El.ct rfl (El.aF (of_decide_eq_true rfl) (El.cf rfl ?_))
   refine El.step (λ_ _=>by rw [b8.l0]) ?_
   exact El.cf rfl El.pure
  ·suffices t:El (λk j=>b8.l0 k [0,y] j 0) (.inr y) by
    exact Ev.bind t.diag Ev.pure
   refine El.step (λ_ _=>by rw [b8.l0]) ?_
   refine El.ct rfl (El.aF (of_decide_eq_true rfl) (El.cf rfl ?_))
   refine El.step (λ_ _=>by rw [b8.l0]) ?_
   exact El.ct rfl (El.aF (of_decide_eq_true rfl) (El.ct (by simpa [Kd.at,c7] using hy) El.pure))
 ·rw [if_neg hx]
  suffices t:El (λk j=>b8.l0 k [x,y] j 0) (.inr x) by
   exact Ev.bind t.diag Ev.pure
  refine El.step (λ_ _=>by rw [b8.l0]) ?_
  exact El.ct rfl (El.aF (of_decide_eq_true rfl) (El.ct (by simpa [Kd.at] using hx) El.pure))
theorem I7 (x y:BA):bu.f x y=some (nS x y):=by
 unfold bu.f cmp_isNaN_string.f nS
 cases h1:il x y <;> cases h2:il y x <;> simp
def rS (x y:Int):Int:=if x<y then -1 else if y<x then 1 else 0
theorem DD (x y:Int):dj.f x y=some (rS x y):=by
 unfold dj.f cmp_isNaN_int.f rS
 by_cases h1:x<y <;> by_cases h2:y<x <;> simp [h1,h2]
def putG (s:BA):Bool->List BA->List BA
 | d,[]=>if d then [] else [s]
 | d,x::l=>(if !d && !il x s then [s] else [])++((if x=s then [] else [x])++putG s (d || !il x s) l)
theorem yv (s:BA):∀ (l:List BA) (d:Bool) (x:BA),x∈putG s d l↔(x∈l/\x≠s)\/(x=s/\d=false)
 | [],d,x=>by cases d <;> simp [putG]
 | y::l,d,x=>by
  simp only [putG,List.mem_append,yv s l]
  by_cases hy:y=s
  ·subst hy
   cases d <;> simp [oL] <;> grind
  ·cases d <;> cases h:il y s <;> simp [hy] <;> grind
theorem wM (s:BA):∀ (l:List BA),putG s true l=l.filter (λx=>decide (x≠s))
 | []=>rfl
 | y::l=>by
  simp only [putG,Bool.not_true,Bool.false_and,Bool.true_or,wM s l]
  by_cases hy:y=s
  ·subst hy;simp
  ·simp [hy]
theorem yX {s:BA}:∀ {l:List BA},C6 l->C6 (putG s false l)
 | [],_=>by simp [putG,C6]
 | y::l,h=>by
  have h':C6 l:=(List.pairwise_cons.1 h).2
  have h1:=(List.pairwise_cons.1 h).1
  cases hs:il y s with
  | true=>
   have hne:y≠s:=EF hs
   have e:putG s false (y::l)=y::putG s false l:=by simp [putG,hs,hne]
   rw [e]
   refine List.pairwise_cons.2 ⟨λz hz=>?_,yX h'⟩
   rcases(yv s l false z).1 hz with⟨z1,_⟩|⟨rfl,_⟩
   ·exact h1 z z1
   ·exact hs
  | false=>
   have e:putG s false (y::l)=s::((if y=s then [] else [y])++l.filter (λx=>decide (x≠s))):=by
    simp [putG,hs,wM]
   rw [e]
   have hsy:∀ z∈l,il s z=true:=λz hz=>by
    by_cases hy:y=s
    ·subst hy;exact h1 z hz
    ·have:il s y=true:=by
      cases h2:il s y with
      | true=>rfl
      | false=>exact absurd (mQ hs h2) hy
     exact ra this (h1 z hz)
   refine List.pairwise_cons.2 ⟨λz hz=>?_,?_⟩
   ·rcases List.mem_append.1 hz with hz | hz
    ·split at hz
     ·cases hz
     ·rename_i hy
      rw [List.mem_singleton] at hz;subst hz
      cases h2:il s z with
      | true=>rfl
      | false=>exact absurd (mQ hs h2) hy
    ·exact hsy z (List.mem_filter.1 hz).1
   ·have hf:C6 (l.filter (λx=>decide (x≠s))):=h'.sublist List.filter_sublist
    split
    ·exact hf
    ·exact List.pairwise_cons.2 ⟨λz hz=>h1 z (List.mem_filter.1 hz).1,hf⟩
theorem rJ {m:Nat} (h:m<=1000000):aE ((m:Int)+1)=((m+1:Nat):Int):=by rw [c7 om om];omega
theorem rp_at (l:List BA) (m:Nat):az.at l (m:Int)=l.getD m ⟨#[]⟩:=by unfold Kd.at;rw [Int.toNat_natCast] <;> rfl
theorem Cc {s:BA} {c:UInt8} (h:dh s c=true):∃ j:Nat,kV s 58=(j:Int)/\j<s.size:=by
 rcases Bb s with e | h2
 ·exfalso
  unfold dh at h
  split at h
  ·have hf:=oZ s 58
   rw [show(((58:UInt8).toNat:Int))=58 from rfl] at hf
   have hft:=oZ (s.extract 1 s.size) 58
   rw [show(((58:UInt8).toNat:Int))=58 from rfl] at hft
   have:kV (s.extract 1 s.size) 58 = -1:=by
    refine rW hft (.inl ⟨rfl,λi hi=>?_⟩)
    rw [j7 (Nat.le_refl _)] at hi
    rw [qK om (Nat.le_refl _)]
    rcases hf with⟨_,h3⟩|⟨j,e',_⟩
    ·exact h3 (1+i) om
    ·omega
   simp only [this] at h
   cases h
  ·cases h
 ·exact h2
def oV (s:BA):BA:=if dh s 64=true\/dh s 33=true then s.extract ((kV s 58).toNat+1) s.size else ⟨#[]⟩
theorem HW {s:BA} (hs:s.size<=maxLen):Ev (λk=>lI.f k s) (oV s):=by
 unfold lI.f oV
 have fin:∀ {c},dh s c=true->Ev (λ_=>(gL.f s (⟨#[58]⟩:BA)).bind λt=>some t.2.1) (s.extract ((kV s 58).toNat+1) s.size):=λ{c} h=>by
  obtain⟨j,e,hj⟩:=Cc h
  refine Ev.bind (Ev.of (Ag hs)) (Ev.of ?_)
  rw [if_pos om]
 refine Ev.bind (Ai hs) ?_
 cases h:dh s 64 with
 | true=>
  rw [if_pos (.inl rfl)]
  exact Ev.cf rfl (fin h)
 | false=>
  refine Ev.ct rfl (Ev.bind (AI hs) ?_)
  cases h2:dh s 33 with
  | true=>rw [if_pos (.inr rfl)];exact Ev.cf rfl (fin h2)
  | false=>rw [if_neg sM];exact Ev.ct rfl Ev.pure
def lr (us:List BA):List BA:=(us.map oV).filter λh=>!decide (h=eE)
theorem CV {x:BA} {l:List BA} (h:oV x=⟨#[]⟩):lr (x::l)=lr l:=by simp [lr,h]
theorem AW {x:BA} {l:List BA} (h:¬ oV x=⟨#[]⟩):lr (x::l)=oV x::lr l:=by simp [lr,h]
theorem AL (us:List BA):(lr us).length<=us.length:=by
 have:=List.length_filter_le (λh=>!decide (h=eE)) (us.map oV)
 rw [List.length_map] at this;exact this
theorem FN {us:List BA} {m:Nat} (h:m<us.length):us.drop m=us.getD m ⟨#[]⟩::us.drop (m+1):=by
 rw [List.drop_eq_getElem_cons h,gD,gE h];rfl
theorem Gp {us:List BA} {m:Nat} (h:m<us.length):us.getD m ⟨#[]⟩∈us:=by
 rw [gD,gE h];exact List.getElem_mem h
theorem zA {us:List BA} (hu:∀ u∈us,u.size<=maxLen) (hl:us.length<=100000):∀ n m:Nat,us.length-m=n->m<=us.length->∀ out:List BA,out.length<=m->
  El (λk j=>member_Homes.l0 k us j (m:Int) out) ((us.length:Int),false,out++lr (us.drop m)):=by
 intro n
 induction n with
 | zero=>
  intro m hd hm out ho
  obtain rfl:m=us.length:=om
  refine El.step (λ_ _=>by rw [member_Homes.l0]) ?_
  refine El.cf (dF om) ?_
  rw [List.drop_length]
  simpa [lr] using El.pure
 | succ n ih=>
  intro m hd hm out ho
  have hlt:m<us.length:=om
  refine El.step (λ_ _=>by rw [member_Homes.l0]) ?_
  simp only [rJ (show m<=1000000 by omega),rp_at]
  have hx:=hu _ (Gp hlt)
  rw [FN hlt]
  generalize us.getD m ⟨#[]⟩=x at hx ⊢
  refine El.ct (dT om) (El.aF ⟨om,om⟩ (El.bind (HW hx).el ?_))
  by_cases h:oV x=⟨#[]⟩
  ·rw [CV h]
   exact El.cf (by simp [h]) (ih (m+1) om om out om)
  ·refine El.ct (by simp [h]) (El.aF ⟨by simp only [List.length_singleton];omega,by simp only [List.length_singleton];omega⟩ ?_)
   have:=ih (m+1) om om (out++[oV x]) (by simp;omega)
   rw [AW h]
   rw [List.append_assoc] at this
   exact this
end Go.Proofs.YtelcbdmigiacpaaGreat
