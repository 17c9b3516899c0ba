import Derived.Test.YtfknmdelgepbjaaGreatDoorZPX
import Derived.Test.YtfknmdelgepbjaaGreatDoorZMA
import Derived.Test.YtfknmdelgepbjaaGreatDoorZWalks3
import Derived.Test.YtfknmdelgepbjaaGreatDoorConA6
import Derived.Test.YtfknmdelgepbjaaGreatDoorZOk
import Derived.Test.YtfknmdelgepbjaaGreatDoorConV
set_option linter.all false
set_option maxRecDepth 10000
namespace Go.Proofs.YtfknmdelgepbjaaGreatDoor
open Go Go.Sp
def lt (t:qo) (a b:Event):Prop:=ltOf iQ (pos t a.cJ) (pos t b.cJ)=true
def AF (t:qo) (id:BA):Event:=((mget t id).map (·.1)).getD default
def PL (t:qo):List Pos:=t.map fun x=>⟨x.2.2,x.1⟩
def sH (t:qo):List Event:=(ll iQ (PL t)).map fun p=>AF t p.cJ
section
variable {t:qo} (hn:(t.map (·.1)).Nodup) (hi:∀ x∈t,x.2.1.cJ=x.1)
include hn
theorem Je {x:BA×(Event×Int)} (h:x∈t):mget t x.1=some x.2:=by
 obtain ⟨i,h1⟩:=List.mem_iff_getElem?.1 h
 exact yg hn h1
theorem H5 {x:BA×(Event×Int)} (h:x∈t):AF t x.1=x.2.1:=by unfold AF; rw [Je hn h]; rfl
theorem DH:(sH t).Perm (t.map (·.2.1)):=by
 have h1:(sH t).Perm ((PL t).map fun p=>AF t p.cJ):=(sQ _).map _
 have h2:(PL t).map (fun p=>AF t p.cJ)=t.map (·.2.1):=by
  unfold PL
  rw [List.map_map]
  exact List.map_congr_left fun x hx=>H5 hn hx
 rw [h2] at h1; exact h1
include hi
end
theorem tb_id (L:List Event):∀ x∈tb L,x.2.1.cJ=x.1:=by
 induction L using rA with
 | h0=>intro x hx; cases hx
 | h1 l e ih=>
  intro x hx
  rw [qW] at hx
  rcases List.mem_append.1 hx with h | h
  ·exact ih x h
  ·rw [List.mem_singleton.1 h]
theorem D2 {L:List Event} (hg:Good L):(sH (tb L)).Perm L:=by have:=DH (yG hg); rwa [AW] at this
theorem JB {e:Event} (h:e.ag.length≤4):iA.f e=some e:=by
 unfold iA.f dI.f
 simp only [an]
 rw [if_pos ⟨om,om⟩]; rfl
structure RT (m:bf) (t:qo):Prop where
 G0:T m=t
 nd:(t.map (·.1)).Nodup
 id:∀ x∈t,x.2.1.cJ=x.1
 par:∀ x∈t,x.2.1.ag.length≤4
 len:t.length≤1000
theorem KF {m:bf} {t:qo} (hr:RT m t):Ev (fun k=>dag_Dag_All.f k m) (sH t):=by
 have hfn:m.aq.length=t.length:=by rw [← hr.G0]; unfold T; rw [List.length_map]
 have hlen:=hr.len
 have e1:m.aq.filterMap aF.g=PL t:=by
  unfold PL
  rw [← hr.G0]
  unfold T
  rw [List.map_map,← List.filterMap_eq_map]
  rfl
 have hid:aF.f m=some ((ll iQ (PL t)).map (·.cJ)):=by
  unfold aF.f
  rw [e1]; simp only [an]; rw [if_pos om]
 have hS:∀ p∈ll iQ (PL t),∃ x∈t,p.cJ=x.1:=fun p hp=>by
  obtain ⟨x,hx,rfl⟩:=List.mem_map.1 ((sQ _).mem_iff.1 hp); exact ⟨x,hx,rfl⟩
 have hSl:(ll iQ (PL t)).length≤1000:=by rw [(sQ _).length_eq]; unfold PL; rw [List.length_map]; exact hlen
 have loop:∀ S:List Pos,S.length≤1000→(∀ p∈S,∃ x∈t,p.cJ=x.1)→∀ n x:Nat,S.length-x=n→x≤S.length→∀ out:List Event,out.length=x→
   El (fun k j=>dag_Dag_All.l0 k m (S.map (·.cJ)) j (x:Int) out) (((S.map (·.cJ)).length:Int),(S.length:Int),false,out++(S.drop x).map (fun p=>AF t p.cJ),S.map (·.cJ)):=by
  intro S hSl hS n
  induction n with
  | zero=>
   intro x hd hx out ho
   obtain rfl:x=S.length:=om
   refine El.step (fun _ _=>by rw [dag_Dag_All.l0]) ?_
   have:decide ((S.length:Int)<((S.map (·.cJ)).length:Int))=false:=dF (by rw [List.length_map]; omega)
   rw [List.drop_length,List.map_nil,List.append_nil]
   exact El.cf this (by rw [this]; exact El.pure)
  | succ n ih=>
   intro x hd hx out ho
   have hx2:x<S.length:=om
   have hat:(S.map (·.cJ)).getD x default=(S[x]).cJ:=by rw [gD,List.getElem?_map,gE hx2]; rfl
   obtain ⟨y,hy,he⟩:=hS S[x] (List.getElem_mem hx2)
   have hg:mget t (S[x]).cJ=some y.2:=by rw [he]; exact Je hr.nd hy
   have hm:(mget m.aq (S[x]).cJ).map (fun nd=>(nd.fe,nd.cN))=some y.2:=by rw [← zE,hr.G0]; exact hg
   obtain ⟨nd,hnd⟩:∃ nd,mget m.aq (S[x]).cJ=some nd:=by
    cases h:mget m.aq (S[x]).cJ with
    | none=>rw [h] at hm; cases hm
    | some nd=>exact ⟨nd,rfl⟩
   have hfe:nd.fe=AF t (S[x]).cJ:=by
    rw [hnd] at hm
    unfold AF
    rw [hg,← Option.some.inj hm]; rfl
   have hpl:nd.fe.ag.length≤4:=by
    rw [hnd] at hm
    have:=congrArg Prod.fst (Option.some.inj hm)
    simp only at this
    rw [this]; exact hr.par y hy
   refine El.step (fun _ _=>by rw [dag_Dag_All.l0]) ?_
   rw [Int.toNat_natCast,hat]
   refine El.ct (dT (by rw [List.length_map]; omega)) (El.an ⟨om,by rw [List.length_map]; omega⟩ (El.an (by rw [hnd]; rfl) ?_))
   rw [hnd]
   refine El.bind (Ev.of (JB hpl)).el (El.an ⟨by rw [List.length_singleton]; omega,by rw [List.length_singleton]; omega⟩ ?_)
   rw [jr (show x≤1000000 by omega)]
   have:=ih (x+1) om om (out++[nd.fe]) (by rw [List.length_append,List.length_singleton]; omega)
   rw [List.drop_eq_getElem_cons hx2,List.map_cons,← hfe]
   rw [List.append_assoc] at this
   exact this
 unfold dag_Dag_All.f
 refine Ev.bind (Ev.bind (Ev.of hid) (loop _ hSl hS _ 0 rfl om [] rfl).diag) (Ev.of ?_)
 rw [List.drop_zero]; rfl
def oF (acc:List (BA×Int)) (e:Event):List (BA×Int):=if e.bR=1 then mput acc e.ai 1 else if e.bR=2 then lL acc e.ai else acc
def jm (A:List Event):List (BA×Int):=A.foldl oF []
def Cc (u:BA) (e:Event):Bool:=decide (e.ai=u) && !decide (e.bR=0)
def Ad (u:BA) (A:List Event) (r:Option Event):Option Event:=A.foldl (fun r e=>if Cc u e=true then some e else r) r
def oj:Option Event→Option Int
 | some e=>if e.bR=1 then some 1 else none
 | none=>none
theorem Jo:∀ (A:List Event),(∀ e∈A,e.bR=0∨e.bR=1∨e.bR=2)→∀ (acc:List (BA×Int)) (r:BA→Option Event),Nd acc→(∀ u,mget acc u=oj (r u))→Nd (A.foldl oF acc)∧∀ u,mget (A.foldl oF acc) u=oj (Ad u A (r u))
 | [],_,acc,r,h1,h2=>⟨h1,h2⟩
 | e::A,hd,acc,r,h1,h2=>by
  show Nd (A.foldl oF (oF acc e))∧∀ u,mget (A.foldl oF (oF acc e)) u=oj (Ad u A (if Cc u e=true then some e else r u))
  refine Jo A (fun x hx=>hd x (List.mem_cons_of_mem _ hx)) (oF acc e) (fun u=>if Cc u e=true then some e else r u) ?_ fun u=>?_
  ·unfold oF
   split
   ·exact sC h1
   ·split
    ·exact (List.Sublist.map _ vY).nodup h1
    ·exact h1
  ·unfold oF Cc
   rcases hd e (List.mem_cons_self ..) with h | h | h
   ·rw [if_neg om,if_neg om,h2]; simp [h]
   ·rw [if_pos h,fG,h2]
    by_cases hu:e.ai=u
    ·simp [hu,h,oj]
    ·simp [hu]
   ·rw [if_neg om,if_pos h,ox h1,h2]
    by_cases hu:e.ai=u
    ·simp [hu,h,oj]
    ·simp [hu]
theorem zS {A:List Event} (hl:A.length≤1000):∀ n x:Nat,A.length-x=n→x≤A.length→∀ acc,
  ∃ r:Int×Int×Bool×List (BA×Int)×List Event,El (fun k j=>member_joined.l0 k A j (x:Int) acc) r∧r.2.2.2.1=(A.drop x).foldl oF acc:=by
 intro n
 induction n with
 | zero=>
  intro x hd hx acc
  obtain rfl:x=A.length:=om
  refine ⟨((A.length:Int),(A.length:Int),false,acc,A),?_,by rw [List.drop_length]; rfl⟩
  refine El.step (fun _ _=>by rw [member_joined.l0]) ?_
  exact El.cf sM (by simpa using El.pure)
 | succ n ih=>
  intro x hd hx acc
  have hx2:x<A.length:=om
  have hat:A.getD x default=ev A x:=rfl
  have hdr:A.drop x=ev A x::A.drop (x+1):=by rw [List.drop_eq_getElem_cons hx2]; unfold ev; rw [gD,gE hx2]; rfl
  obtain ⟨r,r1,r2⟩:=ih (x+1) om om (oF acc (ev A x))
  refine ⟨r,?_,by rw [hdr]; exact r2⟩
  refine El.step (fun _ _=>by rw [member_joined.l0]) ?_
  rw [Int.toNat_natCast,hat,jr (show x≤1000000 by omega)]
  refine El.ct (dT om) (El.an ⟨om,om⟩ ?_)
  unfold oF at r1
  by_cases h1:(ev A x).bR=1
  ·rw [if_pos h1] at r1
   exact El.ct (by simp [h1]) r1
  ·rw [if_neg h1] at r1
   refine El.cf (by simp [h1]) ?_
   by_cases h2:(ev A x).bR=2
   ·rw [if_pos h2] at r1
    exact El.ct (by simp [h2]) r1
   ·rw [if_neg h2] at r1
    exact El.cf (by simp [h2]) r1
theorem DD {m:bf} {t:qo} (hr:RT m t):Ev (fun k=>member_joined.f k m) (jm (sH t)):=by
 have hl:(sH t).length≤1000:=by unfold sH; rw [List.length_map,(sQ _).length_eq]; unfold PL; rw [List.length_map]; exact hr.len
 obtain ⟨r,r1,r2⟩:=zS hl _ 0 rfl om []
 unfold member_joined.f
 refine Ev.bind (Ev.bind (KF hr) r1.diag) (Ev.of ?_)
 rw [r2]; rfl
structure BO (m:bf) (d:aQ):Prop where
 rel:Rel m d
 G0:T m=tb d.fL
 zk:Good d.fL
 par:∀ e∈d.fL,e.ag.length≤4
 lh:∀ e∈d.fL,e.bR=0∨e.bR=1∨e.bR=2
 usr:∀ e∈d.fL,e.ai.size≤maxLen
 flg:∀ x∈m.aq,x.2.kc=sZ d.fL x.1
theorem FD (room:BA):BO ⟨room,[]⟩ ⟨room,[]⟩:=⟨ra room,rfl,⟨List.nodup_nil,fun i hi=>by simp at hi⟩,fun e he=>(by cases he),fun e he=>(by cases he),fun e he=>(by cases he),fun x hx=>(by cases hx)⟩
theorem zp {κ α:Type} [DecidableEq κ] {k:κ} {a:α}:∀ {m:List (κ×α)},(m.map (·.1)).Nodup→∀ x,x∈mput m k a→x=(k,a)∨(x∈m∧x.1≠k)
 | [],_,x,h=>by simp [mput] at h; exact .inl h
 | e::m,hn,x,h=>by
  rw [List.map_cons,List.nodup_cons] at hn
  simp only [mput] at h
  split at h
  ·rename_i hk
   rcases List.mem_cons.1 h with h | h
   ·exact .inl h
   ·refine .inr ⟨List.mem_cons_of_mem _ h,fun e2=>hn.1 ?_⟩
    rw [hk,← e2]; exact List.mem_map.2 ⟨x,h,rfl⟩
  ·rename_i hk
   rcases List.mem_cons.1 h with h | h
   ·exact .inr ⟨by rw [h]; exact List.mem_cons_self ..,by rw [h]; exact hk⟩
   ·rcases zp hn.2 x h with h2 | ⟨h2,h3⟩
    ·exact .inl h2
    ·exact .inr ⟨List.mem_cons_of_mem _ h2,h3⟩
theorem markF {e:Event} (he:Event.ok e):∀ n x,e.ag.length-x=n→x≤e.ag.length→∀ (dep:Int) (m:bf),(∀ i,i<e.ag.length→(mget m.aq (par e i)).isSome=true)→(m.aq.map (·.1)).Nodup→
  ∃ r:Int×Bool×Int×bf,El (fun k j=>dag_Dag_Add.l0 k e j (x:Int) dep m) r∧∀ y∈r.2.2.2.aq,∃ z∈m.aq,y.1=z.1∧y.2.kc=(z.2.kc||Fg (e.ag.drop x) z.1):=by
 have hn:e.ag.length≤9223372036854775807:=he.2.2.1.1
 intro n
 induction n with
 | zero=>
  intro x hd hx dep m hm hnd
  obtain rfl:x=e.ag.length:=om
  refine ⟨((e.ag.length:Int),false,dep,m),?_,fun y hy=>⟨y,hy,rfl,by rw [List.drop_length]; simp [Fg]⟩⟩
  refine El.step (fun _ _=>by rw [dag_Dag_Add.l0]) ?_
  exact El.cf sM (by simpa using El.pure)
 | succ n ih=>
  intro x hd hx dep m hm hnd
  have hx2:x<e.ag.length:=om
  obtain ⟨nd,hnd2⟩:=Option.isSome_iff_exists.1 (hm x hx2)
  have hg:(mget m.aq (par e x)).getD default=nd:=by rw [hnd2]; rfl
  have hdr:e.ag.drop x=par e x::e.ag.drop (x+1):=by
   rw [List.drop_eq_getElem_cons hx2]; unfold par; rw [gD,gE hx2]; rfl
  obtain ⟨r,h1,h2⟩:=ih (x+1) om om (max dep (aw (nd.cN+1))) (⟨m.cR,mput m.aq (par e x) (⟨nd.fe,nd.cN,true⟩:aW)⟩:bf) (fun i hi=>by
   have h4:=hm i hi
   show (mget (mput m.aq (par e x) (⟨nd.fe,nd.cN,true⟩:aW)) (par e i)).isSome=true
   rw [fG]
   split
   ·rfl
   ·exact h4) (by
   have:=wk (fun x:BA×aW=>x.1) (a':=(⟨nd.fe,nd.cN,true⟩:aW)) hnd2 rfl
   show ((mput m.aq (par e x) (⟨nd.fe,nd.cN,true⟩:aW)).map (·.1)).Nodup
   rw [this]; exact hnd)
  refine ⟨r,?_,fun y hy=>?_⟩
  ·refine El.step (fun _ _=>by rw [dag_Dag_Add.l0]) ?_
   refine El.ct (by simpa using hx2) (El.an ⟨om,om⟩ ?_)
   rw [lF hx2,hg]
   refine El.an (hm x hx2) ?_
   rw [aP (x:=(x:Int)+1) om om]
   exact h1
  ·obtain ⟨z,hz,e1,e2⟩:=h2 y hy
   rw [hdr]
   rcases zp hnd z hz with rfl | ⟨hz2,hz3⟩
   ·refine ⟨(par e x,nd),rv hnd2,e1,?_⟩
    rw [e2]; simp [Fg]
   ·refine ⟨z,hz2,e1,?_⟩
    rw [e2]
    have:¬ par e x=z.1:=fun h=>hz3 h.symm
    simp [Fg,this]
theorem Eo {d:aQ} {e:Event} (h:code d e=0):pn e=true∧ix d.fL e.cJ<0∧gZ (fun i=>decide (0≤ix d.fL (Go.Proofs.YtfknmdelgepbjaaGreatDoor.par e i))) 0 e.ag.length=true:=by
 unfold code at h
 split at h
 ·cases h
 ·rename_i c1
  split at h
  ·cases h
  ·split at h
   ·cases h
   ·rename_i c3
    split at h
    ·cases h
    ·rename_i c4
     refine ⟨by simpa using c1,Int.not_le.1 c3,?_⟩
     cases hh:gZ (fun i=>decide (0≤ix d.fL (Go.Proofs.YtfknmdelgepbjaaGreatDoor.par e i))) 0 e.ag.length with
     | true=>rfl
     | false=>exact absurd hh c4
theorem Cj {e:Event} {p:BA} (h:p∈e.ag):∃ i,i<e.ag.length∧par e i=p:=by
 obtain ⟨i,hi,rfl⟩:=List.mem_iff_getElem.1 h
 exact ⟨i,hi,by unfold par; rw [gD,gE hi]; rfl⟩
theorem EW {d:aQ} {e:Event} (hg:Good d.fL) (hc:code d e=0):Good (d.fL++[e]):=by
 obtain ⟨_,h1,h2⟩:=Eo hc
 refine ⟨?_,fun i hi p hp=>?_⟩
 ·rw [List.map_append,List.nodup_append]
  refine ⟨hg.uq,List.nodup_cons.2 ⟨sM,List.nodup_nil⟩,fun a ha b hb=>?_⟩
  obtain ⟨x,hx,rfl⟩:=List.mem_map.1 ha
  simp at hb
  rw [hb]
  intro he
  obtain ⟨j,hj,rfl⟩:=yA hx
  rcases mL d.fL e.cJ with ⟨_,k⟩ | ⟨q,k,_⟩
  ·exact k j hj he
  ·omega
 ·rw [List.length_append,List.length_singleton] at hi
  rcases Nat.lt_or_ge i d.fL.length with k | k
  ·rw [nu k] at hp
   obtain ⟨j,hj,he⟩:=hg.cl i k p hp
   exact ⟨j,hj,by rw [nu om]; exact he⟩
  ·obtain rfl:i=d.fL.length:=om
   rw [qV] at hp
   obtain ⟨q,hq,rfl⟩:=Cj hp
   have:=j8.1 h2 q om hq
   rcases mL d.fL (par e q) with ⟨k1,_⟩ | ⟨j,k1,hj,he⟩
   ·simp [k1] at this
   ·exact ⟨j,hj,by rw [nu hj]; exact he⟩
theorem GO {m:bf} {d:aQ} {e:Event} (hr:BO m d) (he:Event.ok e) (hl:d.fL.length≤100000):∃ m',Ev (fun k=>dag_Dag_Add.f k m e) (code d e,m')∧(code d e≠0→m'=m)∧(code d e=0→BO m' ⟨d.aa,d.fL++[e]⟩):=by
 obtain ⟨m',h1,h2,h3⟩:=Hv hr.rel he (JQ hr.G0 hl)
 refine ⟨m',h1,h2,fun hc=>?_⟩
 obtain ⟨a1,a2,r,a3,a4⟩:=h3 hc
 obtain ⟨c1,c2,c3⟩:=Eo hc
 have hg:=EW hr.zk hc
 have hall:∀ i,i<e.ag.length→(mget m.aq (par e i)).isSome=true:=fun i hi=>by
  have h1:=j8.1 c3 i om hi
  rcases r8 hr.rel (par e i) with ⟨q,_⟩ | ⟨j,q,_,_,nd,h,_⟩
  ·simp [q] at h1
  ·rw [h]; rfl
 have hkeys:m.aq.map (·.1)=d.fL.map (·.cJ):=by
  rw [← yM,← hr.G0]; unfold T; rw [List.map_map]; rfl
 have hnd:(m.aq.map (·.1)).Nodup:=by rw [hkeys]; exact hr.zk.uq
 obtain ⟨r',b1,b2⟩:=markF he _ 0 rfl om 0 m hall hnd
 have hrr:r'=r:=Ev.uniq b1.diag a3.diag
 subst hrr
 have cm:=c1
 unfold pn at cm
 simp at cm
 have hself:e.cJ ∉ e.ag:=fun hp=>by
  obtain ⟨q,hq,hq2⟩:=Cj hp
  have:=j8.1 cm.2.2.2.2.2.2.2 q om hq
  unfold sG at this
  simp [hq2] at this
 refine ⟨a1,by rw [a2,hr.G0,qW],hg,fun x hx=>?_,fun x hx=>?_,fun x hx=>?_,fun x hx=>?_⟩
 ·rcases List.mem_append.1 hx with k | k
  ·exact hr.par x k
  ·rw [List.mem_singleton.1 k]; exact cm.2.2.2.1
 ·rcases List.mem_append.1 hx with k | k
  ·exact hr.lh x k
  ·rw [List.mem_singleton.1 k]; have:=cm.2.2.2.2.1; have:=cm.2.2.2.2.2.1; omega
 ·rcases List.mem_append.1 hx with k | k
  ·exact hr.usr x k
  ·rw [List.mem_singleton.1 k]; exact he.2.2.2.2.1
 ·rw [a4] at hx
  have hnew:mget r'.2.2.2.aq e.cJ=none:=by
   cases hh:mget r'.2.2.2.aq e.cJ with
   | none=>rfl
   | some v=>
    obtain ⟨z,hz,e1,_⟩:=b2 _ (rv hh)
    have:e.cJ∈m.aq.map (·.1):=by rw [show e.cJ=z.1 from e1]; exact List.mem_map.2 ⟨z,hz,rfl⟩
    rw [hkeys] at this
    obtain ⟨x2,hx2,hx3⟩:=List.mem_map.1 this
    obtain ⟨j,hj,rfl⟩:=yA hx2
    rcases mL d.fL e.cJ with ⟨_,k⟩ | ⟨q,k,_⟩
    ·exact absurd hx3 (k j hj)
    ·omega
  rw [uy hnew] at hx
  have happ:∀ id,sZ (d.fL++[e]) id=(sZ d.fL id||Fg e.ag id):=fun id=>by unfold sZ; rw [List.any_append]; simp
  show x.2.kc=sZ (d.fL++[e]) x.1
  rcases List.mem_append.1 hx with k | k
  ·obtain ⟨z,hz,e1,e2⟩:=b2 x k
   rw [e2,e1,happ,hr.flg z hz,List.drop_zero]
  ·rw [List.mem_singleton.1 k,happ]
   show false=(sZ d.fL e.cJ||Fg e.ag e.cJ)
   rw [Ku hself]
   cases hp:sZ d.fL e.cJ with
   | false=>rfl
   | true=>
    exfalso
    unfold sZ at hp
    obtain ⟨y,hy,hy2⟩:=List.any_eq_true.1 hp
    obtain ⟨i,hi,rfl⟩:=yA hy
    obtain ⟨j,hj,hje⟩:=hr.zk.cl i hi _ (B5.1 hy2)
    rcases mL d.fL e.cJ with ⟨_,k⟩ | ⟨q,k,_⟩
    ·exact k j om hje
    ·omega
def lM (w:bF) (room:BA):aQ:=(w.fD.find? fun d=>decide (d.aa=room)).getD ⟨room,[]⟩
theorem AA (w:bF) (room:BA):(lM w room).aa=room:=by
 unfold lM
 cases h:w.fD.find? fun d=>decide (d.aa=room) with
 | none=>rfl
 | some d=>simpa using List.find?_some h
theorem vC {w:bF} {room:BA} (hl:w.fD.length≤100000):Ev (fun k=>iJ.f k w room) (lM w room):=by
 unfold iJ.f
 have key:∀ n x:Nat,w.fD.length-x=n→x≤w.fD.length→∃ r:(Int×Bool) ⊕ aQ,El (fun k j=>iJ.l0 k w room j (x:Int)) r∧fall (fun (p555:Int×Bool)=>some (⟨room,([]:List Event)⟩:aQ)) r=some (((w.fD.drop x).find? fun d=>decide (d.aa=room)).getD ⟨room,[]⟩):=by
  intro n
  induction n with
  | zero=>
   intro x hd hx
   obtain rfl:x=w.fD.length:=om
   refine ⟨.inl ((w.fD.length:Int),false),?_,by simp [fall]⟩
   refine El.step (fun _ _=>by rw [iJ.l0]) ?_
   exact El.cf sM (by simpa using El.pure)
  | succ n ih=>
   intro x hd hx
   have hx2:x<w.fD.length:=om
   have e1:aQ.K.at w.fD (x:Int)=w.fD[x]:=by rw [DV _ _ default hx2,gD,gE hx2]; rfl
   rw [List.drop_eq_getElem_cons hx2,List.find?_cons]
   cases hq:decide (w.fD[x].aa=room) with
   | true=>
    refine ⟨.inr w.fD[x],?_,rfl⟩
    refine El.step (fun _ _=>by rw [iJ.l0]) ?_
    rw [e1]
    exact El.ct (by simpa using hx2) (El.an ⟨om,om⟩ (El.ct hq (El.an ⟨om,om⟩ El.pure)))
   | false=>
    obtain ⟨r,h1,h2⟩:=ih (x+1) om om
    refine ⟨r,?_,h2⟩
    refine El.step (fun _ _=>by rw [iJ.l0]) ?_
    rw [e1,aP (x:=(x:Int)+1) om om]
    exact El.ct (by simpa using hx2) (El.an ⟨om,om⟩ (El.cf hq h1))
 obtain ⟨r,h1,h2⟩:=key _ 0 rfl om
 exact Ev.bind h1.diag (Ev.of h2)
structure wH (v:aL) (w:bF):Prop where
 KY:∀ d∈w.fD,∃ m,mget v.br d.aa=some m∧BO m d
 JL:∀ room,(∀ d∈w.fD,d.aa≠room)→mget v.br room=none
 nd:(w.fD.map (·.aa)).Nodup
 ndv:Nd v.br
 tD:sF (w.fD.map (·.aa))
 ne:∀ d∈w.fD,d.fL≠[]
theorem D6:wH ⟨[]⟩ ⟨[]⟩:=⟨fun d h=>(by cases h),fun _ _=>rfl,List.nodup_nil,yU,List.Pairwise.nil,fun d h=>(by cases h)⟩
theorem rl {v:aL} {w:bF} (hr:wH v w) (room:BA):∃ m,aO.f v room=some m∧BO m (lM w room)∧(∀ x,mget v.br room=some x→x=m):=by
 unfold aO.f lM
 cases h:w.fD.find? fun d=>decide (d.aa=room) with
 | none=>
  have h1:mget v.br room=none:=hr.JL room fun d hd=>by simpa using List.find?_eq_none.1 h d hd
  rw [h1]
  exact ⟨_,rfl,FD room,fun x hx=>by cases hx⟩
 | some d=>
  obtain ⟨m,h1,h2⟩:=hr.KY d (List.mem_of_find?_eq_some h)
  have h3:d.aa=room:=by simpa using List.find?_some h
  rw [h3] at h1
  rw [h1]
  exact ⟨m,rfl,h2,fun x hx=>(Option.some.inj hx).symm⟩
theorem Ew {w:bF} {e:Event} {t:aQ×Int} (hl:w.fD.length≤100000):∀ n x:Nat,w.fD.length-x=n→x≤w.fD.length→∀ (dn:Bool) (out:List aQ),out.length≤2*x→
  ∃ r:Bool×Int×Bool×List aQ,El (fun k j=>eh.l0 k w e t j dn (x:Int) out) r∧(dn=true→r.1=true)∧r.2.2.2.length≤2*w.fD.length∧
   r.2.2.2.Perm ((if dn=false∧r.1=true then [t.1] else [])++(out++(w.fD.drop x).filter fun d=>!decide (d.aa=e.aa))):=by
 intro n
 induction n with
 | zero=>
  intro x hd hx dn out ho
  obtain rfl:x=w.fD.length:=om
  refine ⟨(dn,(w.fD.length:Int),false,out),?_,fun h=>h,ho,?_⟩
  ·refine El.step (fun _ _=>by rw [eh.l0]) ?_
   exact El.cf sM (by simpa using El.pure)
  ·cases dn <;> simp
 | succ n ih=>
  intro x hd hx dn out ho
  have hx2:x<w.fD.length:=om
  have e1:aQ.K.at w.fD (x:Int)=w.fD[x]:=by rw [DV _ _ default hx2,gD,gE hx2]; rfl
  obtain ⟨pt,hpt⟩:∃ pt:Bool,pt=(!dn && !dO (w.fD[x].aa) e.aa):=⟨_,rfl⟩
  obtain ⟨b,hb⟩:∃ b:Bool,El (fun (k j:Nat)=>cond (!dn) (an ((0:Int)≤(x:Int)∧(x:Int)<(w.fD.length:Int)) (cond (!dO (w.fD[x].aa) e.aa) (an (out.length+([t.1]:List aQ).length≤9223372036854775807∧(out.length+([t.1]:List aQ).length)*40≤140737488355328) (some (true,!dO (w.fD[x].aa) e.aa,out++([t.1]:List aQ)))) (some (dn,!dO (w.fD[x].aa) e.aa,out)))) (some (dn,false,out))) (dn||pt,b,if pt then out++[t.1] else out):=by
   cases dn with
   | true=>exact ⟨false,by rw [hpt]; exact El.cf rfl El.pure⟩
   | false=>
    cases hs:dO (w.fD[x].aa) e.aa with
    | true=>exact ⟨false,by rw [hpt,hs]; exact El.ct rfl (El.an ⟨om,om⟩ (El.cf rfl El.pure))⟩
    | false=>exact ⟨true,by rw [hpt,hs]; exact El.ct rfl (El.an ⟨om,om⟩ (El.ct rfl (El.an ⟨by simp; omega,by simp; omega⟩ El.pure)))⟩
  have hol:(if pt then out++[t.1] else out).length≤2*x+1:=by cases pt <;> simp <;> omega
  have hstep:∀ {r},El (fun k j=>cond (!decide ((w.fD[x].aa)=e.aa)) (an ((0:Int)≤(x:Int)∧(x:Int)<(w.fD.length:Int)) (an ((if pt then out++[t.1] else out).length+([w.fD[x]]:List aQ).length≤9223372036854775807∧((if pt then out++[t.1] else out).length+([w.fD[x]]:List aQ).length)*40≤140737488355328) (eh.l0 k w e t j (dn||pt) (aw ((x:Int)+1)) ((if pt then out++[t.1] else out)++([w.fD[x]]:List aQ))))) (eh.l0 k w e t j (dn||pt) (aw ((x:Int)+1)) (if pt then out++[t.1] else out))) r→El (fun k j=>eh.l0 k w e t j dn (x:Int) out) r:=fun h=>by
   refine El.step (fun _ _=>by rw [eh.l0]) ?_
   rw [e1]
   exact El.ct (by simpa using hx2) (El.bind hb (El.an ⟨om,om⟩ h))
  have hperm:∀ {r:Bool} {X:List aQ} {tl:List aQ},(dn=true→(dn||pt)=true)→((dn||pt)=true→r=true)→X.Perm ((if (dn||pt)=false∧r=true then [t.1] else [])++((if pt then out++[t.1] else out)++tl))→X.Perm ((if dn=false∧r=true then [t.1] else [])++(out++tl)):=fun {r X tl} _ hmono hX=>by
   cases dn with
   | true=>
        have:pt=false:=by rw [hpt]; rfl
        subst this; simpa using hX
   | false=>
    cases pt with
    | false=>simpa using hX
    | true=>
     have:r=true:=hmono rfl
     subst this
     simp only [Bool.or_true,Bool.true_eq_false,false_and,if_false,if_true,List.nil_append,and_self,List.singleton_append] at hX ⊢
     refine hX.trans ?_
     rw [List.append_assoc]
     exact List.perm_middle
  rw [List.drop_eq_getElem_cons hx2,List.filter_cons]
  cases hq:decide (w.fD[x].aa=e.aa) with
  | true=>
   obtain ⟨r,h1,h2,h3,h4⟩:=ih (x+1) om om (dn||pt) (if pt then out++[t.1] else out) om
   refine ⟨r,hstep (El.cf (by rw [hq]; rfl) ?_),fun h=>h2 (by rw [h]; rfl),h3,?_⟩
   ·rw [aP (x:=(x:Int)+1) om om]; exact h1
   ·simpa using hperm (fun h=>by rw [h]; rfl) h2 h4
  | false=>
   obtain ⟨r,h1,h2,h3,h4⟩:=ih (x+1) om om (dn||pt) ((if pt then out++[t.1] else out)++[w.fD[x]]) (by rw [List.length_append]; simp; omega)
   refine ⟨r,hstep (El.ct (by rw [hq]; rfl) (El.an ⟨om,om⟩ (El.an ⟨by simp only [List.length_singleton]; omega,by simp only [List.length_singleton]; omega⟩ ?_))),fun h=>h2 (by rw [h]; rfl),h3,?_⟩
   ·rw [aP (x:=(x:Int)+1) om om]; exact h1
   ·have:=hperm (X:=r.2.2.2) (r:=r.1) (tl:=w.fD[x]::(w.fD.drop (x+1)).filter fun d=>!decide (d.aa=e.aa)) (fun h=>by rw [h]; rfl) h2 (by rw [List.append_assoc] at h4; simpa using h4)
    simpa using this
theorem GX {w:bF} {e:Event} {t:aQ×Int} (ht:t.1.aa=e.aa) (hl:w.fD.length≤100000):∀ n x:Nat,w.fD.length-x=n→x≤w.fD.length→∀ (dn:Bool) (out:List aQ),out.length≤2*x→
  ∃ r:Bool×Int×Bool×List aQ,El (fun k j=>eh.l0 k w e t j dn (x:Int) out) r∧(if r.1=true then r.2.2.2 else r.2.2.2++[t.1]).map (·.aa)=out.map (·.aa)++putG e.aa dn ((w.fD.drop x).map (·.aa)):=by
 intro n
 induction n with
 | zero=>
  intro x hd hx dn out ho
  obtain rfl:x=w.fD.length:=om
  refine ⟨(dn,(w.fD.length:Int),false,out),?_,?_⟩
  ·refine El.step (fun _ _=>by rw [eh.l0]) ?_
   exact El.cf sM (by simpa using El.pure)
  ·rw [List.drop_length]
   cases dn <;> simp [putG,ht]
 | succ n ih=>
  intro x hd hx dn out ho
  have hx2:x<w.fD.length:=om
  have e1:aQ.K.at w.fD (x:Int)=w.fD[x]:=by rw [DV _ _ default hx2,gD,gE hx2]; rfl
  obtain ⟨pt,hpt⟩:∃ pt:Bool,pt=(!dn && !dO (w.fD[x].aa) e.aa):=⟨_,rfl⟩
  obtain ⟨b,hb⟩:∃ b:Bool,El (fun (k j:Nat)=>cond (!dn) (an ((0:Int)≤(x:Int)∧(x:Int)<(w.fD.length:Int)) (cond (!dO (w.fD[x].aa) e.aa) (an (out.length+([t.1]:List aQ).length≤9223372036854775807∧(out.length+([t.1]:List aQ).length)*40≤140737488355328) (some (true,!dO (w.fD[x].aa) e.aa,out++([t.1]:List aQ)))) (some (dn,!dO (w.fD[x].aa) e.aa,out)))) (some (dn,false,out))) (dn||pt,b,if pt then out++[t.1] else out):=by
   cases dn with
   | true=>exact ⟨false,by rw [hpt]; exact El.cf rfl El.pure⟩
   | false=>
    cases hs:dO (w.fD[x].aa) e.aa with
    | true=>exact ⟨false,by rw [hpt,hs]; exact El.ct rfl (El.an ⟨om,om⟩ (El.cf rfl El.pure))⟩
    | false=>exact ⟨true,by rw [hpt,hs]; exact El.ct rfl (El.an ⟨om,om⟩ (El.ct rfl (El.an ⟨by simp; omega,by simp; omega⟩ El.pure)))⟩
  have hol:(if pt then out++[t.1] else out).length≤2*x+1:=by cases pt <;> simp <;> omega
  have hstep:∀ {r},El (fun k j=>cond (!decide ((w.fD[x].aa)=e.aa)) (an ((0:Int)≤(x:Int)∧(x:Int)<(w.fD.length:Int)) (an ((if pt then out++[t.1] else out).length+([w.fD[x]]:List aQ).length≤9223372036854775807∧((if pt then out++[t.1] else out).length+([w.fD[x]]:List aQ).length)*40≤140737488355328) (eh.l0 k w e t j (dn||pt) (aw ((x:Int)+1)) ((if pt then out++[t.1] else out)++([w.fD[x]]:List aQ))))) (eh.l0 k w e t j (dn||pt) (aw ((x:Int)+1)) (if pt then out++[t.1] else out))) r→El (fun k j=>eh.l0 k w e t j dn (x:Int) out) r:=fun h=>by
   refine El.step (fun _ _=>by rw [eh.l0]) ?_
   rw [e1]
   exact El.ct (by simpa using hx2) (El.bind hb (El.an ⟨om,om⟩ h))
  have hdn:(dn||pt)=(dn || !dO (w.fD[x].aa) e.aa):=by rw [hpt]; cases dn <;> rfl
  have hout:(if pt then out++[t.1] else out).map (·.aa)=out.map (·.aa)++(if (!dn && !dO (w.fD[x].aa) e.aa) then [e.aa] else []):=by
   rw [← hpt]; cases pt <;> simp [ht]
  rw [List.drop_eq_getElem_cons hx2,List.map_cons]
  cases hq:decide (w.fD[x].aa=e.aa) with
  | true=>
   obtain ⟨r,h1,h2⟩:=ih (x+1) om om (dn||pt) (if pt then out++[t.1] else out) om
   refine ⟨r,hstep (El.cf (by rw [hq]; rfl) ?_),?_⟩
   ·rw [aP (x:=(x:Int)+1) om om]; exact h1
   ·rw [h2,hout,hdn,List.append_assoc]
    congr 1
    simp only [putG,if_pos (of_decide_eq_true hq),List.nil_append]
  | false=>
   obtain ⟨r,h1,h2⟩:=ih (x+1) om om (dn||pt) ((if pt then out++[t.1] else out)++[w.fD[x]]) (by rw [List.length_append]; simp; omega)
   refine ⟨r,hstep (El.ct (by rw [hq]; rfl) (El.an ⟨om,om⟩ (El.an ⟨by simp only [List.length_singleton]; omega,by simp only [List.length_singleton]; omega⟩ ?_))),?_⟩
   ·rw [aP (x:=(x:Int)+1) om om]; exact h1
   ·rw [h2,List.map_append,hout,hdn,List.append_assoc,List.append_assoc]
    congr 1
    simp only [putG,if_neg (of_decide_eq_false hq),List.map_cons,List.map_nil]
theorem HW {w:bF} {e:Event} (he:Event.ok e) (hl:w.fD.length≤100000) (hd:(lM w e.aa).fL.length≤100000):
  ∃ w',Ev (fun k=>eh.f k w e) (w',code (lM w e.aa) e)∧(code (lM w e.aa) e≠0→w'=w)∧
   (code (lM w e.aa) e=0→w'.fD.Perm (⟨e.aa,(lM w e.aa).fL++[e]⟩::w.fD.filter fun d=>!decide (d.aa=e.aa))∧w'.fD.map (·.aa)=putG e.aa false (w.fD.map (·.aa))):=by
 unfold eh.f
 by_cases hc:code (lM w e.aa) e=0
 ·have h1:=AV he hd
  rw [if_pos hc,AA] at h1
  obtain ⟨r,l1,l2,l3,l4⟩:=Ew (w:=w) (e:=e) (t:=((⟨e.aa,(lM w e.aa).fL++[e]⟩:aQ),0)) hl _ 0 rfl om false [] sM
  obtain ⟨r',l1',l5⟩:=GX (w:=w) (e:=e) (t:=((⟨e.aa,(lM w e.aa).fL++[e]⟩:aQ),0)) rfl hl _ 0 rfl om false [] sM
  have hrr:r'=r:=Ev.uniq l1'.diag l1.diag
  subst hrr
  rw [List.drop_zero,List.map_nil,List.nil_append] at l5
  rw [hc]
  cases hr:r'.1 with
  | false=>
   refine ⟨⟨r'.2.2.2++[(⟨e.aa,(lM w e.aa).fL++[e]⟩:aQ)]⟩,Ev.bind (vC hl) (Ev.bind h1 (Ev.cf rfl (Ev.bind l1.diag (Ev.ct (by rw [hr]; rfl) (Ev.an ⟨by simp; omega,by simp; omega⟩ Ev.pure))))),fun h=>absurd rfl h,fun _=>?_⟩
   rw [hr] at l4 l5
   simp at l4
   exact ⟨(List.perm_append_comm).trans (l4.cons _),l5⟩
  | true=>
   refine ⟨⟨r'.2.2.2⟩,Ev.bind (vC hl) (Ev.bind h1 (Ev.cf rfl (Ev.bind l1.diag (Ev.cf (by rw [hr]; rfl) Ev.pure)))),fun h=>absurd rfl h,fun _=>?_⟩
   rw [hr] at l4 l5
   exact ⟨by simpa using l4,l5⟩
 ·have h1:=AV he hd
  rw [if_neg hc] at h1
  exact ⟨w,Ev.bind (vC hl) (Ev.bind h1 (Ev.ct (by simpa using hc) Ev.pure)),fun _=>rfl,fun h=>absurd h hc⟩
theorem Ds {l l':List aQ} {room:BA} (hp:l.Perm l') (hn:(l.map (·.aa)).Nodup):(l.find? fun d=>decide (d.aa=room))=l'.find? fun d=>decide (d.aa=room):=by
 have hn':(l'.map (·.aa)).Nodup:=(hp.map _).nodup_iff.1 hn
 have one:∀ {l:List aQ},(l.map (·.aa)).Nodup→∀ {x y},x∈l→y∈l→x.aa=y.aa→x=y:=fun {l} hn x y hx hy e=>by
  induction l with
  | nil=>cases hx
  | cons a l ih=>
   rw [List.map_cons,List.nodup_cons] at hn
   rcases List.mem_cons.1 hx with h1 | h1 <;> rcases List.mem_cons.1 hy with h2 | h2
   ·rw [h1,h2]
   ·exact absurd (List.mem_map.2 ⟨y,h2,by rw [← h1]; exact e.symm⟩) hn.1
   ·exact absurd (List.mem_map.2 ⟨x,h1,by rw [← h2]; exact e⟩) hn.1
   ·exact ih hn.2 h1 h2
 cases h:l.find? fun d=>decide (d.aa=room) with
 | none=>
  symm
  rw [List.find?_eq_none] at h ⊢
  exact fun x hx=>h x (hp.mem_iff.2 hx)
 | some d=>
  cases h':l'.find? fun d=>decide (d.aa=room) with
  | none=>rw [List.find?_eq_none] at h'; exact absurd (List.find?_some h) (h' d (hp.mem_iff.1 (List.mem_of_find?_eq_some h)))
  | some d'=>
   have a:d.aa=room:=by simpa using List.find?_some h
   have b:d'.aa=room:=by simpa using List.find?_some h'
   rw [one hn (List.mem_of_find?_eq_some h) (hp.mem_iff.2 (List.mem_of_find?_eq_some h')) (a.trans b.symm)]
theorem GN {w w':bF} {d:aQ} (hn:(w.fD.map (·.aa)).Nodup) (hp:w'.fD.Perm (d::w.fD.filter fun x=>!decide (x.aa=d.aa))):(w'.fD.map (·.aa)).Nodup∧∀ room,lM w' room=if room=d.aa then d else lM w room:=by
 have hn2:((d::w.fD.filter fun x=>!decide (x.aa=d.aa)).map (·.aa)).Nodup:=by
  rw [List.map_cons,List.nodup_cons]
  refine ⟨fun h=>?_,(hn.sublist ((List.filter_sublist ..).map _))⟩
  obtain ⟨x,hx,e⟩:=List.mem_map.1 h
  simp at hx; exact hx.2 e
 have hn3:=(hp.map (·.aa)).nodup_iff.2 hn2
 refine ⟨hn3,fun room=>?_⟩
 unfold lM
 rw [Ds hp hn3,List.find?_cons]
 by_cases h:room=d.aa
 ·rw [if_pos h,dT h.symm]; rfl
 ·rw [if_neg h,dF (fun e=>h e.symm)]
  have key:((w.fD.filter fun x=>!decide (x.aa=d.aa)).find? fun d=>decide (d.aa=room))=w.fD.find? fun d=>decide (d.aa=room):=by
   rw [List.find?_filter]
   congr 1
   funext x
   by_cases hx:x.aa=room
   ·have:¬ x.aa=d.aa:=fun e=>h (hx.symm.trans e)
    simp [hx]; exact h
   ·simp [hx]
  show (((w.fD.filter fun x=>!decide (x.aa=d.aa)).find? fun d=>decide (d.aa=room))).getD _=_
  rw [key]
theorem Ig {v:aL} {w:bF} {e:Event} (hr:wH v w) (he:Event.ok e) (hl:w.fD.length≤100000) (hd:(lM w e.aa).fL.length≤100000):
  ∃ v' w',Ev (fun k=>iC.f k v e) (code (lM w e.aa) e,v')∧Ev (fun k=>eh.f k w e) (w',code (lM w e.aa) e)∧wH v' w'∧
   (code (lM w e.aa) e≠0→w'=w∧v'=v)∧(code (lM w e.aa) e=0→(∀ room,lM w' room=if room=e.aa then ⟨e.aa,(lM w e.aa).fL++[e]⟩ else lM w room)∧w'.fD.length≤w.fD.length+1):=by
 obtain ⟨w',r1,r2,r3⟩:=HW he hl hd
 obtain ⟨m,v1,v2,v3⟩:=rl hr e.aa
 obtain ⟨m',a1,a2,a3⟩:=GO v2 he hd
 unfold iC.f
 by_cases hc:code (lM w e.aa) e=0
 ·obtain ⟨hp,hpS⟩:=r3 hc
  obtain ⟨n1,n2⟩:=GN (d:=⟨e.aa,(lM w e.aa).fL++[e]⟩) hr.nd hp
  refine ⟨⟨mput v.br e.aa m'⟩,w',?_,r1,⟨fun d hdm=>?_,fun room hroom=>?_,n1,sC hr.ndv,by rw [hpS]; exact rn hr.tD,fun d hdm=>by
   rcases List.mem_cons.1 (hp.mem_iff.1 hdm) with rfl | hdm
   ·simp
   ·exact hr.ne d (List.mem_filter.1 hdm).1⟩,fun h=>absurd hc h,fun _=>⟨n2,?_⟩⟩
  ·rw [hc] at a1 ⊢
   exact Ev.bind (Ev.of v1) (Ev.bind a1 (Ev.cf rfl Ev.pure))
  ·rcases List.mem_cons.1 (hp.mem_iff.1 hdm) with rfl | hdm
   ·refine ⟨m',by simp only [fG,if_true],?_⟩
    have:=a3 hc
    rwa [AA] at this
   ·simp at hdm
    obtain ⟨m2,q1,q2⟩:=hr.KY d hdm.1
    exact ⟨m2,by simp only [fG,if_neg (fun e=>hdm.2 e.symm:¬ e.aa=d.aa)]; exact q1,q2⟩
  ·have h1:e.aa≠room:=hroom _ (hp.mem_iff.2 (List.mem_cons_self ..))
   simp only [fG,if_neg h1]
   refine hr.JL room fun d hdm hdr=>?_
   by_cases h2:d.aa=e.aa
   ·exact h1 (h2.symm.trans hdr)
   ·exact hroom d (hp.mem_iff.2 (List.mem_cons_of_mem _ (by simp [hdm,h2]))) hdr
  ·rw [hp.length_eq,List.length_cons]
   have:=List.length_filter_le (fun d=>!decide (d.aa=e.aa)) w.fD
   exact Nat.succ_le_succ this
 ·obtain rfl:=r2 hc
  refine ⟨v,w',?_,r1,hr,fun _=>⟨rfl,rfl⟩,fun h=>absurd h hc⟩
  have:=a2 hc
  subst this
  refine Ev.bind (Ev.of v1) (Ev.bind a1 (Ev.ct (by simpa using hc) (Ev.of ?_)))
  have:wM v.br e.aa m'=v.br:=xx v3
  rw [this]
def Gq (n:Int):Prop:=-9223372036854775808≤n∧n≤9223372036854775807
theorem fS {n m:Int} (hn:Gq n) (h0:0<m) (hm:m≤9223372036854775807):∃ r,bp.f n m=some r∧0≤r∧r<m:=by
 obtain ⟨h1,h2⟩:=hn
 unfold bp.f
 have hne:m≠0:=om
 by_cases h:n<0
 ·rw [dT h,aP (x:=n+1) om om,aP om om]
  refine ⟨(0-(n+1)).tmod m,by simp only [cond_true,an,if_pos hne],?_⟩
  rw [Int.tmod_eq_emod_of_nonneg om]
  exact ⟨Int.emod_nonneg _ hne,Int.emod_lt_of_pos _ h0⟩
 ·rw [dF h]
  refine ⟨n.tmod m,by simp only [cond_false,an,if_pos hne],?_⟩
  rw [Int.tmod_eq_emod_of_nonneg om]
  exact ⟨Int.emod_nonneg _ hne,Int.emod_lt_of_pos _ h0⟩
def jC:List BA:=[⟨#[33,114,58,115,49]⟩,⟨#[33,113,58,115,50]⟩]
def lP:List BA:=[⟨#[64,97,58,115,49]⟩,⟨#[64,97,58,115,50]⟩,⟨#[64,97,58,115,51]⟩,⟨#[64,98,58,115,49]⟩,⟨#[64,98,58,115,50]⟩,⟨#[64,98,58,115,51]⟩,⟨#[64,99,58,115,49]⟩,⟨#[64,99,58,115,50]⟩,⟨#[64,99,58,115,51]⟩]
theorem int_lt {r:Int} {n:Nat} (h0:0≤r) (h1:r<n):∃ k:Nat,k<n∧r=(k:Int):=⟨r.toNat,om,om⟩
theorem DK {n:Int} (hn:Gq n):∃ r,fb.f n=some r∧r∈jC:=by
 obtain ⟨m,h1,h2,h3⟩:=fS (m:=2) hn dc dc
 unfold fb.f
 rw [h1]
 obtain ⟨k,hk,rfl⟩:=int_lt (n:=2) h2 h3
 have:∀ k:Nat,k<2→∃ r,((some (k:Int)).bind fun t340=>an ((0:Int)≤t340∧t340<(([(⟨#[33,114,58,115,49]⟩:BA),(⟨#[33,113,58,115,50]⟩:BA)]:List BA).length:Int)) (some (aH.at ([(⟨#[33,114,58,115,49]⟩:BA),(⟨#[33,113,58,115,50]⟩:BA)]:List BA) t340)))=some r∧r∈jC:=by
  intro k hk
  match k,hk with
  | 0,_=>exact ⟨_,rfl,List.mem_of_getElem? (i:=0) rfl⟩
  | 1,_=>exact ⟨_,rfl,List.mem_of_getElem? (i:=1) rfl⟩
 exact this k hk
theorem DQ:∀ k:Nat,k<9→∃ r,gU.f (k:Int)=some r∧lP[k]? = some r:=by
 intro k hk
 match k,hk with
 | 0,_=>exact ⟨_,rfl,rfl⟩
 | 1,_=>exact ⟨_,rfl,rfl⟩
 | 2,_=>exact ⟨_,rfl,rfl⟩
 | 3,_=>exact ⟨_,rfl,rfl⟩
 | 4,_=>exact ⟨_,rfl,rfl⟩
 | 5,_=>exact ⟨_,rfl,rfl⟩
 | 6,_=>exact ⟨_,rfl,rfl⟩
 | 7,_=>exact ⟨_,rfl,rfl⟩
 | 8,_=>exact ⟨_,rfl,rfl⟩
theorem rL {k m:Nat} (h:k<m) (hm:0<m):bp.f (k:Int) (m:Int)=some (k:Int):=by
 unfold bp.f
 have:¬ ((k:Int)<0):=om
 have hne:(m:Int)≠0:=om
 rw [dF this]
 simp only [cond_false,an,if_pos hne]
 rw [Int.tmod_eq_emod_of_nonneg om,Int.emod_eq_of_lt om om]
theorem sI {n:Int} (hn:Gq n):∃ r,gU.f n=some r∧r∈lP:=by
 obtain ⟨m,h1,h2,h3⟩:=fS (m:=9) hn dc dc
 obtain ⟨k,hk,rfl⟩:=int_lt (n:=9) h2 h3
 obtain ⟨r,hr,hu⟩:=DQ k hk
 refine ⟨r,?_,List.mem_of_getElem? hu⟩
 rw [← hr]
 unfold gU.f
 rw [h1,show (9:Int)=((9:Nat):Int) from rfl,rL hk dc]
theorem lE {n:Int} (h:(Lit.int .i64 n).wf=true):Gq n:=by
 have h':IntKind.i64.min≤n∧n≤9223372036854775807:=by simpa [Lit.wf] using h
 have e:IntKind.i64.min = -9223372036854775808:=dc
 unfold Gq
 omega
def mq (k:Nat):BA:=⟨#[36,101,UInt8.ofNat (48+k)]⟩
theorem vU:∀ k,k<9→jM (mq k)=true:=fun k hk=>by
 have h:(List.range 9).all (fun k=>jM (mq k))=true:=kr
 exact List.all_eq_true.1 h k (List.mem_range.2 hk)
theorem ES {j k:Nat} (h:j<k) (hk:k<9):dO (mq j) (mq k)=true:=by
 have h2:(List.range 9).all (fun k=>(List.range k).all fun j=>dO (mq j) (mq k))=true:=kr
 exact List.all_eq_true.1 (List.all_eq_true.1 h2 k (List.mem_range.2 hk)) j (List.mem_range.2 h)
theorem ya {j k:Nat} (h:j<k) (hk:k<9):mq j≠mq k:=BK (ES h hk)
theorem B6 {j k:Nat} (hj:j<9) (hk:k<9) (h:mq j=mq k):j=k:=by
 rcases Nat.lt_trichotomy j k with h1 | h1 | h1
 ·exact absurd h (ya h1 hk)
 ·exact h1
 ·exact absurd h.symm (ya h1 hj)
theorem p6 (k:Nat):(mq k).size≤maxLen:=by show (3:Nat)≤9223372036854775807; omega
theorem HN (k:Nat):mq k≠⟨#[]⟩:=fun h=>by
 have:=congrArg (fun s:BA=>s.size) h
 exact absurd this (by show ¬ (3:Nat)=0; decide)
theorem je:∀ k:Nat,k<9→Ev (fun n=>dq.f n (k:Int)) (mq k):=by
 intro k hk
 refine Ev.add 2 fun m=>?_
 match k,hk with
 | 0,_=>rfl
 | 1,_=>rfl
 | 2,_=>rfl
 | 3,_=>rfl
 | 4,_=>rfl
 | 5,_=>rfl
 | 6,_=>rfl
 | 7,_=>rfl
 | 8,_=>rfl
theorem roomB {r:BA} (h:r∈jC):dm r 33=true:=by
 have h2:jC.all (fun r=>dm r 33)=true:=kr
 exact List.all_eq_true.1 h2 r h
theorem userB {r:BA} (h:r∈lP):dm r 64=true:=by
 have h2:lP.all (fun r=>dm r 64)=true:=kr
 exact List.all_eq_true.1 h2 r h
theorem DJ {r:BA} (h:r∈jC):r.size≤maxLen:=by
 have h2:jC.all (fun r=>decide (r.size≤10))=true:=kr
 have:=of_decide_eq_true (List.all_eq_true.1 h2 r h)
 show _≤9223372036854775807; omega
theorem Di {r:BA} (h:r∈lP):r.size≤maxLen:=by
 have h2:lP.all (fun r=>decide (r.size≤10))=true:=kr
 have:=of_decide_eq_true (List.all_eq_true.1 h2 r h)
 show _≤9223372036854775807; omega
theorem Gc {l S:List Nat} (hn:l.Nodup) (hs:∀ x∈l,x∈S):l.length≤S.length:=by
 induction l generalizing S with
 | nil=>simp
 | cons a l ih=>
  rw [List.nodup_cons] at hn
  have ha:=hs a (List.mem_cons_self ..)
  have h1:=ih (S:=S.erase a) hn.2 fun x hx=>(List.mem_erase_of_ne fun e=>hn.1 (by rw [← e]; exact hx)).2 (hs x (List.mem_cons_of_mem _ hx))
  rw [List.length_erase_of_mem ha] at h1
  have:=List.length_pos_of_mem ha
  simp only [List.length_cons]; omega
structure MI (room:BA) (L:List Event):Prop where
 len:L.length≤9
 ids:∀ k,k<L.length→(ev L k).cJ=mq k
theorem Jd {room:BA} {L:List Event} (h:MI room L) {k:Nat} (hk:k<L.length):ix L (mq k)=(k:Int):=by
 have hl:=h.len
 rcases mL L (mq k) with ⟨_,q⟩ | ⟨j,q,hj,he⟩
 ·exact absurd (h.ids k hk) (q k hk)
 ·rw [h.ids j hj] at he
  rw [q,B6 om om he]
theorem JH {room:BA} {L:List Event} (h:MI room L) (hl:L.length<9):ix L (mq L.length) = -1:=by
 rcases mL L (mq L.length) with ⟨q,_⟩ | ⟨j,q,hj,he⟩
 ·exact q
 ·rw [h.ids j hj] at he
  exact absurd (B6 om hl he) om
theorem Dd {room user th:BA} {L:List Event} {ks:List Nat} {lh:Int} (h:MI room L) (hl:L.length<9) (hr:room∈jC) (hu:user∈lP) (hk:∀ k∈ks,k<L.length) (hs:ks.Pairwise (· < ·)) (h4:ks.length≤3) (hd:0≤lh∧lh<3)
  (ht:th=⟨#[]⟩∨(lh=0∧∃ t,t<L.length∧th=mq t∧(ev L t).bR=0∧(ev L t).ae=⟨#[]⟩)):code ⟨room,L⟩ ⟨mq L.length,room,ks.map mq,th,user,lh⟩=0:=by
 have hpar:∀ i,(hi:i<ks.length)→par ⟨mq L.length,room,ks.map mq,th,user,lh⟩ i=mq ks[i]:=fun i hi=>by
  unfold par
  rw [gD,List.getElem?_map,gE hi]; rfl
 have hmay:pn ⟨mq L.length,room,ks.map mq,th,user,lh⟩=true:=by
  unfold pn
  simp only [vU _ hl,roomB hr,userB hu,Bool.true_and,List.length_map,Bool.and_eq_true,decide_eq_true_eq,j8]
  refine ⟨om,hd.1,om,?_,fun i _ hi=>?_⟩
  ·unfold wO
   rcases ht with ht | ⟨h0,t,h1,h2,_⟩
   ·simp [ht]
   ·simp only [h2,vU t om,h0,Bool.true_and,decide_true,Bool.and_true,Bool.or_eq_true,Bool.not_eq_true',decide_eq_false_iff_not]
    exact .inr (ya h1 hl)
  ·unfold sG
   rw [hpar i hi]
   have hki:=hk _ (List.getElem_mem hi)
   simp only [vU _ (show ks[i]<9 by omega),Bool.true_and,Bool.and_eq_true,Bool.not_eq_true',decide_eq_false_iff_not,Bool.or_eq_true,decide_eq_true_eq]
   refine ⟨ya hki hl,?_⟩
   by_cases h0:i=0
   ·exact .inl h0
   ·right
    rw [hpar (i-1) om]
    exact ES (List.pairwise_iff_getElem.1 hs (i-1) i om hi om) om
 unfold code
 rw [hmay]
 have hall:gZ (fun i=>decide (0≤ix L (par ⟨mq L.length,room,ks.map mq,th,user,lh⟩ i))) 0 (ks.map mq).length=true:=by
  rw [j8]
  intro i _ hi
  rw [List.length_map] at hi
  rw [hpar i hi,Jd h (hk _ (List.getElem_mem hi))]
  simp
 simp only [Bool.true_eq_false,if_false,ne_eq,not_true_eq_false,JH h hl,hall]
 rw [if_neg om]
 rcases ht with ht | ⟨h0,t,h1,h2,h3,h5⟩
 ·simp [ht]
 ·rw [if_neg (by rw [h2]; exact HN t),h2,Jd h h1,Int.toNat_natCast,h3,h5]
  simp
theorem IB {room user th:BA} {n:Nat} {ks:List Nat} {lh:Int} (hr:room∈jC) (hu:user∈lP) (h4:ks.length≤3) (hd:0≤lh∧lh<3) (ht:th=⟨#[]⟩∨∃ t,th=mq t):Event.ok ⟨mq n,room,ks.map mq,th,user,lh⟩:=by
 refine ⟨p6 _,DJ hr,⟨by rw [List.length_map]; show _≤9223372036854775807; omega,fun x hx=>?_⟩,?_,Di hu,?_,trivial⟩
 ·obtain ⟨k,_,rfl⟩:=List.mem_map.1 hx; exact p6 k
 ·rcases ht with rfl | ⟨t,rfl⟩
  ·show (0:Nat)≤9223372036854775807; omega
  ·exact p6 t
 ·have:lh=0∨lh=1∨lh=2:=om
  rcases this with rfl | rfl | rfl <;> rfl
end Go.Proofs.YtfknmdelgepbjaaGreatDoor
