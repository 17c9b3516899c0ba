import Derived.Test.YtelcbdmigiacpaaGreatZMA
import Derived.Test.YtelcbdmigiacpaaGreatZWalks2
set_option linter.all false
set_option maxRecDepth 10000
namespace Go.Proofs.YtelcbdmigiacpaaGreat
open Go Go.Sp
def lt (t:qu) (a b:Event):Prop:=ltOf jy (pos t a.cC) (pos t b.cC)=true
def wB (t:qu) (id:BA):Event:=((mget t id).map (·.1)).getD default
def PL (t:qu):List Pos:=t.map λx=>⟨x.2.2,x.1⟩
def nG (t:qu):List Event:=(lW jy (PL t)).map λp=>wB t p.cC
section
variable {t:qu} (hn:(t.map (·.1)).Nodup) (hi:∀ x∈t,x.2.1.cC=x.1)
include hn
theorem Ek {x:BA×(Event×Int)} (h:x∈t):mget t x.1=some x.2:=by
 obtain⟨i,h1⟩:=List.mem_iff_getElem?.1 h
 exact yl hn h1
theorem BR {x:BA×(Event×Int)} (h:x∈t):wB t x.1=x.2.1:=by unfold wB;rw [Ek hn h];rfl
theorem Jb {x:BA×(Event×Int)} (h:x∈t):pos t x.1=⟨x.2.2,x.1⟩:=by unfold pos rK;rw [Ek hn h];rfl
theorem Cf:(nG t).Perm (t.map (·.2.1)):=by
 have h1:(nG t).Perm ((PL t).map λp=>wB t p.cC):=(oD _).map _
 have h2:(PL t).map (λp=>wB t p.cC)=t.map (·.2.1):=by
  unfold PL
  rw [List.map_map]
  exact List.map_congr_left λx hx=>BR hn hx
 rw [h2] at h1;exact h1
include hi
theorem Er:(nG t).Pairwise (lt t):=by
 unfold nG
 rw [List.pairwise_map]
 have hnd:(lW jy (PL t)).Nodup:=by
  rw [(oD _).nodup_iff]
  have:((PL t).map (·.cC)).Nodup:=by unfold PL;rw [List.map_map];exact hn
  exact List.Pairwise.of_map _ (λa b h e=>h (congrArg _ e)) this
 have hp:∀ p∈lW jy (PL t),pos t (wB t p.cC).cC=p:=λp hp=>by
  have:=(oD _).mem_iff.1 hp
  obtain⟨x,hx,rfl⟩:=List.mem_map.1 this
  show pos t (wB t x.1).cC=_
  rw [BR hn hx,hi x hx,Jb hn hx]
 refine List.Pairwise.imp_of_mem ?_ ((uB wj (PL t)).and hnd)
 intro a b ha hb h
 show ltOf jy _ _=true
 rw [hp a ha,hp b hb]
 cases h2:ltOf jy a b with
 | true=>rfl
 | false=>exact absurd (wi a b h2 h.1) h.2
end
theorem Hw (L:List Event):∀ x∈tb L,x.2.1.cC=x.1:=by
 induction L using sB with
 | h0=>intro x hx;cases hx
 | h1 l e ih=>
  intro x hx
  rw [rD] at hx
  rcases List.mem_append.1 hx with h | h
  ·exact ih x h
  ·rw [List.mem_singleton.1 h]
theorem vu {L:List Event} (hg:Good L):(nG (tb L)).Perm L:=by have:=Cf (uo hg);rwa [AB] at this
theorem Fk {L:List Event} (hg:Good L):(nG (tb L)).Pairwise (lt (tb L)):=Er (uo hg) (Hw L)
theorem H8 {e:Event} (h:e.ag.length<=4):jF.f e=some e:=by
 unfold jF.f ey.f
 simp only [aF]
 rw [if_pos ⟨om,om⟩];rfl
structure RT (m:bM) (t:qu):Prop where
 Fc:T m=t
 nd:(t.map (·.1)).Nodup
 id:∀ x∈t,x.2.1.cC=x.1
 par:∀ x∈t,x.2.1.ag.length<=4
 len:t.length<=1000
theorem H2 {m:bM} {t:qu} (hr:RT m t):Ev (λk=>dag_Dag_All.f k m) (nG t):=by
 have hfn:m.aw.length=t.length:=by rw [<- hr.Fc];unfold T;rw [List.length_map]
 have hlen:=hr.len
 have e1:m.aw.filterMap aT.g=PL t:=by
  unfold PL
  rw [<- hr.Fc]
  unfold T
  rw [List.map_map,<- List.filterMap_eq_map]
  rfl
 have hid:aT.f m=some ((lW jy (PL t)).map (·.cC)):=by
  unfold aT.f
  rw [e1];simp only [aF];rw [if_pos om]
 have hS:∀ p∈lW jy (PL t),∃ x∈t,p.cC=x.1:=λp hp=>by
  obtain⟨x,hx,rfl⟩:=List.mem_map.1 ((oD _).mem_iff.1 hp);exact⟨x,hx,rfl⟩
 have hSl:(lW jy (PL t)).length<=1000:=by rw [(oD _).length_eq];unfold PL;rw [List.length_map];exact hlen
 have loop:∀ S:List Pos,S.length<=1000->(∀ p∈S,∃ x∈t,p.cC=x.1)->∀ n x:Nat,S.length-x=n->x<=S.length->∀ out:List Event,out.length=x->
   El (λk j=>dag_Dag_All.l0 k m (S.map (·.cC)) j (x:Int) out) (((S.map (·.cC)).length:Int),(S.length:Int),false,out++(S.drop x).map (λp=>wB t p.cC),S.map (·.cC)):=by
  intro S hSl hS n
  induction n with
  | zero=>
   intro x hd hx out ho
   obtain rfl:x=S.length:=om
   refine El.step (λ_ _=>by rw [dag_Dag_All.l0]) ?_
   have:decide ((S.length:Int)<((S.map (·.cC)).length:Int))=false:=dF (by rw [List.length_map];omega)
   rw [List.drop_length,List.map_nil,List.append_nil]
   exact El.cf this (by rw [this];exact El.pure)
  | succ n ih=>
   intro x hd hx out ho
   have hx2:x<S.length:=om
   have hat:(S.map (·.cC)).getD x default=(S[x]).cC:=by rw [gD,List.getElem?_map,gE hx2];rfl
   obtain⟨y,hy,he⟩:=hS S[x] (List.getElem_mem hx2)
   have hg:mget t (S[x]).cC=some y.2:=by rw [he];exact Ek hr.nd hy
   have hm:(mget m.aw (S[x]).cC).map (λnd=>(nd.fe,nd.dx))=some y.2:=by rw [<- yz,hr.Fc];exact hg
   obtain⟨nd,hnd⟩:∃ nd,mget m.aw (S[x]).cC=some nd:=by
    cases h:mget m.aw (S[x]).cC with
    | none=>rw [h] at hm;cases hm
    | some nd=>exact⟨nd,rfl⟩
   have hfe:nd.fe=wB t (S[x]).cC:=by
    rw [hnd] at hm
    unfold wB
    rw [hg,<- Option.some.inj hm];rfl
   have hpl:nd.fe.ag.length<=4:=by
    rw [hnd] at hm
    have:=congrArg Prod.fst (Option.some.inj hm)
    simp only at this
    rw [this];exact hr.par y hy
   refine El.step (λ_ _=>by rw [dag_Dag_All.l0]) ?_
   rw [Int.toNat_natCast,hat]
   refine El.ct (dT (by rw [List.length_map];omega)) (El.aF ⟨om,by rw [List.length_map];omega⟩ (El.aF (by rw [hnd];rfl) ?_))
   rw [hnd]
   refine El.bind (Ev.of (H8 hpl)).el (El.aF ⟨by rw [List.length_singleton];omega,by rw [List.length_singleton];omega⟩ ?_)
   rw [rJ (show x<=1000000 by omega)]
   have:=ih (x+1) om om (out++[nd.fe]) (by rw [List.length_append,List.length_singleton];omega)
   rw [List.drop_eq_getElem_cons hx2,List.map_cons,<- hfe]
   rw [List.append_assoc] at this
   exact this
 unfold dag_Dag_All.f
 refine Ev.bind (Ev.bind (Ev.of hid) (loop _ hSl hS _ 0 rfl om [] rfl).diag) (Ev.of ?_)
 rw [List.drop_zero];rfl
def mM (acc:List (BA×Int)) (e:Event):List (BA×Int):=if e.cW=1 then mput acc e.aC 1 else if e.cW=2 then jV acc e.aC else acc
def jm (A:List Event):List (BA×Int):=A.foldl mM []
def lY (u:BA) (e:Event):Bool:=decide (e.aC=u) && !decide (e.cW=0)
def qk (u:BA) (A:List Event) (r:Option Event):Option Event:=A.foldl (λr e=>if lY u e=true then some e else r) r
def oj:Option Event->Option Int
 | some e=>if e.cW=1 then some 1 else none
 | none=>none
theorem HU:∀ (A:List Event),(∀ e∈A,e.cW=0\/e.cW=1\/e.cW=2)->∀ (acc:List (BA×Int)) (r:BA->Option Event),Nd acc->(∀ u,mget acc u=oj (r u))->Nd (A.foldl mM acc)/\∀ u,mget (A.foldl mM acc) u=oj (qk u A (r u))
 | [],_,acc,r,h1,h2=>⟨h1,h2⟩
 | e::A,hd,acc,r,h1,h2=>by
  show Nd (A.foldl mM (mM acc e))/\∀ u,mget (A.foldl mM (mM acc e)) u=oj (qk u A (if lY u e=true then some e else r u))
  refine HU A (λx hx=>hd x (List.mem_cons_of_mem _ hx)) (mM acc e) (λu=>if lY u e=true then some e else r u) ?_ λu=>?_
  ·unfold mM
   split
   ·exact qQ h1
   ·split
    ·exact(List.Sublist.map _ sg).nodup h1
    ·exact h1
  ·unfold mM lY
   rcases hd e (List.mem_cons_self ..) with h | h | h
   ·rw [if_neg om,if_neg om,h2];simp [h]
   ·rw [if_pos h,ir,h2]
    by_cases hu:e.aC=u
    ·simp [hu,h,oj]
    ·simp [hu]
   ·rw [if_neg om,if_pos h,pG h1,h2]
    by_cases hu:e.aC=u
    ·simp [hu,h,oj]
    ·simp [hu]
theorem Ck (acc:List (BA×Int)) (e:Event):(mM acc e).length<=acc.length+1:=by
 unfold mM
 split
 ·cases h:mget acc e.aC with
  | none=>rw [sI h];simp
  | some v=>have:=r8 (λx=>x.1) (a':=(1:Int)) h rfl;have:=congrArg List.length this;simp at this;omega
 ·split
  ·have:=(sg (m:=acc) (k:=e.aC)).length_le;omega
  ·omega
theorem Dy:∀ (A:List Event) (acc:List (BA×Int)),(A.foldl mM acc).length<=acc.length+A.length
 | [],acc=>sM
 | e::A,acc=>by
  have:=Dy A (mM acc e)
  have:=Ck acc e
  show(A.foldl mM (mM acc e)).length<=_
  rw [List.length_cons];omega
theorem zk {A:List Event} (hl:A.length<=1000):∀ n x:Nat,A.length-x=n->x<=A.length->∀ acc,
  ∃ r:Int×Int×Bool×List (BA×Int)×List Event,El (λk j=>member_joined.l0 k A j (x:Int) acc) r/\r.2.2.2.1=(A.drop x).foldl mM acc:=by
 intro n
 induction n with
 | zero=>
  intro x hd hx acc
  obtain rfl:x=A.length:=om
  refine⟨((A.length:Int),(A.length:Int),false,acc,A),?_,by rw [List.drop_length];rfl⟩
  refine El.step (λ_ _=>by rw [member_joined.l0]) ?_
  exact El.cf sM (by simpa using El.pure)
 | succ n ih=>
  intro x hd hx acc
  have hx2:x<A.length:=om
  have hat:A.getD x default=ev A x:=rfl
  have hdr:A.drop x=ev A x::A.drop (x+1):=by rw [List.drop_eq_getElem_cons hx2];unfold ev;rw [gD,gE hx2];rfl
  obtain⟨r,r1,r2⟩:=ih (x+1) om om (mM acc (ev A x))
  refine⟨r,?_,by rw [hdr];exact r2⟩
  refine El.step (λ_ _=>by rw [member_joined.l0]) ?_
  rw [Int.toNat_natCast,hat,rJ (show x<=1000000 by omega)]
  refine El.ct (dT om) (El.aF ⟨om,om⟩ ?_)
  unfold mM at r1
  by_cases h1:(ev A x).cW=1
  ·rw [if_pos h1] at r1
   exact El.ct (by simp [h1]) r1
  ·rw [if_neg h1] at r1
   refine El.cf (by simp [h1]) ?_
   by_cases h2:(ev A x).cW=2
   ·rw [if_pos h2] at r1
    exact El.ct (by simp [h2]) r1
   ·rw [if_neg h2] at r1
    exact El.cf (by simp [h2]) r1
theorem wI {m:bM} {t:qu} (hr:RT m t):Ev (λk=>member_joined.f k m) (jm (nG t)):=by
 have hl:(nG t).length<=1000:=by unfold nG;rw [List.length_map,(oD _).length_eq];unfold PL;rw [List.length_map];exact hr.len
 obtain⟨r,r1,r2⟩:=zk hl _ 0 rfl om []
 unfold member_joined.f
 refine Ev.bind (Ev.bind (H2 hr) r1.diag) (Ev.of ?_)
 rw [r2];rfl
def Mx (t:qu) (L:List Event) (u:BA):Option Event->Prop
 | none=>∀ e∈L,lY u e=false
 | some e=>e∈L/\lY u e=true/\∀ e'∈L,lY u e'=true->e'=e\/lt t e' e
theorem BC {t:qu} {u:BA}:∀ (A:List Event),A.Pairwise (lt t)->∀ r:Option Event,match qk u A r with
  | none=>r=none/\∀ e∈A,lY u e=false
  | some e=>(r=some e/\∀ e'∈A,lY u e'=false)\/(e∈A/\lY u e=true/\∀ e'∈A,lY u e'=true->e'=e\/lt t e' e)
 | [],_,none=>⟨rfl,λ_ h=>by cases h⟩
 | [],_,some e=>.inl ⟨rfl,λ_ h=>by cases h⟩
 | x::A,h,r=>by
  rw [List.pairwise_cons] at h
  have ih:=BC (u:=u) A h.2 (if lY u x=true then some x else r)
  show match qk u A (if lY u x=true then some x else r) with
   | none=>r=none/\∀ e∈x::A,lY u e=false
   | some e=>(r=some e/\∀ e'∈x::A,lY u e'=false)\/(e∈x::A/\lY u e=true/\∀ e'∈x::A,lY u e'=true->e'=e\/lt t e' e)
  cases hq:qk u A (if lY u x=true then some x else r) with
  | none=>
   rw [hq] at ih
   cases hx:lY u x with
   | true=>rw [hx] at ih;cases ih.1
   | false=>
    rw [hx] at ih
    exact⟨ih.1,λe he=>(List.mem_cons.1 he).elim (λk=>by rw [k];exact hx) (ih.2 e)⟩
  | some e=>
   rw [hq] at ih
   rcases ih with⟨h1,h2⟩|⟨h1,h2,h3⟩
   ·cases hx:lY u x with
    | true=>
     rw [hx] at h1
     cases h1
     refine .inr ⟨List.mem_cons_self ..,hx,λe' he hr=>?_⟩
     rcases List.mem_cons.1 he with k | k
     ·exact .inl k
     ·have:=h2 e' k;rw [hr] at this;cases this
    | false=>
     rw [hx] at h1
     exact .inl ⟨h1,λe' he=>(List.mem_cons.1 he).elim (λk=>by rw [k];exact hx) (h2 e')⟩
   ·refine .inr ⟨List.mem_cons_of_mem _ h1,h2,λe' he hr=>?_⟩
    rcases List.mem_cons.1 he with k | k
    ·rw [k];exact .inr (h.1 e h1)
    ·exact h3 e' k hr
theorem DS {L:List Event} (hg:Good L) (u:BA):Mx (tb L) L u (qk u (nG (tb L)) none):=by
 have h:=BC (u:=u) (nG (tb L)) (Fk hg) none
 have hm:∀ e,e∈nG (tb L)↔e∈L:=λe=>(vu hg).mem_iff
 cases hq:qk u (nG (tb L)) none with
 | none=>rw [hq] at h;exact λe he=>h.2 e ((hm e).2 he)
 | some e=>
  rw [hq] at h
  rcases h with⟨h,_⟩|⟨h1,h2,h3⟩
  ·cases h
  ·exact⟨(hm e).1 h1,h2,λe' he=>h3 e' ((hm e').2 he)⟩
structure Au (m:bM) (d:bq):Prop where
 rel:Rel m d
 Fc:T m=tb d.fL
 wC:Good d.fL
 par:∀ e∈d.fL,e.ag.length<=4
 mC:∀ e∈d.fL,e.cW=0\/e.cW=1\/e.cW=2
 usr:∀ e∈d.fL,e.aC.size<=maxLen
 flg:∀ x∈m.aw,x.2.lG=tI d.fL x.1
theorem Du (room:BA):Au ⟨room,[]⟩ ⟨room,[]⟩:=⟨G7 room,rfl,⟨List.nodup_nil,λi hi=>by simp at hi⟩,λe he=>(by cases he),λe he=>(by cases he),λe he=>(by cases he),λx hx=>(by cases hx)⟩
theorem zC {κ α:Type} [DecidableEq κ] {k:κ} {a:α}:∀ {m:List (κ×α)},(m.map (·.1)).Nodup->∀ x,x∈mput m k a->x=(k,a)\/(x∈m/\x.1≠k)
 | [],_,x,h=>by simp [mput] at h;exact .inl h
 | e::m,hn,x,h=>by
  rw [List.map_cons,List.nodup_cons] at hn
  simp only [mput] at h
  split at h
  ·rename_i hk
   rcases List.mem_cons.1 h with h | h
   ·exact .inl h
   ·refine .inr ⟨List.mem_cons_of_mem _ h,λe2=>hn.1 ?_⟩
    rw [hk,<- e2];exact List.mem_map.2 ⟨x,h,rfl⟩
  ·rename_i hk
   rcases List.mem_cons.1 h with h | h
   ·exact .inr ⟨by rw [h];exact List.mem_cons_self ..,by rw [h];exact hk⟩
   ·rcases zC hn.2 x h with h2 | ⟨h2,h3⟩
    ·exact .inl h2
    ·exact .inr ⟨List.mem_cons_of_mem _ h2,h3⟩
theorem markF {e:Event} (he:Event.ok e):∀ n x,e.ag.length-x=n->x<=e.ag.length->∀ (dep:Int) (m:bM),(∀ i,i<e.ag.length->(mget m.aw (par e i)).isSome=true)->(m.aw.map (·.1)).Nodup->
  ∃ r:Int×Bool×Int×bM,El (λk j=>dag_Dag_Add.l0 k e j (x:Int) dep m) r/\∀ y∈r.2.2.2.aw,∃ z∈m.aw,y.1=z.1/\y.2.lG=(z.2.lG||DU (e.ag.drop x) z.1):=by
 have hn:e.ag.length<=9223372036854775807:=he.2.2.1.1
 intro n
 induction n with
 | zero=>
  intro x hd hx dep m hm hnd
  obtain rfl:x=e.ag.length:=om
  refine⟨((e.ag.length:Int),false,dep,m),?_,λy hy=>⟨y,hy,rfl,by rw [List.drop_length];simp [DU]⟩⟩
  refine El.step (λ_ _=>by rw [dag_Dag_Add.l0]) ?_
  exact El.cf sM (by simpa using El.pure)
 | succ n ih=>
  intro x hd hx dep m hm hnd
  have hx2:x<e.ag.length:=om
  obtain⟨nd,hnd2⟩:=Option.isSome_iff_exists.1 (hm x hx2)
  have hg:(mget m.aw (par e x)).getD default=nd:=by rw [hnd2];rfl
  have hdr:e.ag.drop x=par e x::e.ag.drop (x+1):=by
   rw [List.drop_eq_getElem_cons hx2];unfold par;rw [gD,gE hx2];rfl
  obtain⟨r,h1,h2⟩:=ih (x+1) om om (max dep (aE (nd.dx+1))) (⟨m.cP,mput m.aw (par e x) (⟨nd.fe,nd.dx,true⟩:bp)⟩:bM) (λi hi=>by
   have h4:=hm i hi
   show(mget (mput m.aw (par e x) (⟨nd.fe,nd.dx,true⟩:bp)) (par e i)).isSome=true
   rw [ir]
   split
   ·rfl
   ·exact h4) (by
   have:=r8 (λx:BA×bp=>x.1) (a':=(⟨nd.fe,nd.dx,true⟩:bp)) hnd2 rfl
   show((mput m.aw (par e x) (⟨nd.fe,nd.dx,true⟩:bp)).map (·.1)).Nodup
   rw [this];exact hnd)
  refine⟨r,?_,λy hy=>?_⟩
  ·refine El.step (λ_ _=>by rw [dag_Dag_Add.l0]) ?_
   refine El.ct (by simpa using hx2) (El.aF ⟨om,om⟩ ?_)
   rw [mN hx2,hg]
   refine El.aF (hm x hx2) ?_
   rw [c7 (x:=(x:Int)+1) om om]
   exact h1
  ·obtain⟨z,hz,e1,e2⟩:=h2 y hy
   rw [hdr]
   rcases zC hnd z hz with rfl | ⟨hz2,hz3⟩
   ·refine⟨(par e x,nd),sc hnd2,e1,?_⟩
    rw [e2];simp [DU]
   ·refine⟨z,hz2,e1,?_⟩
    rw [e2]
    have:¬ par e x=z.1:=λh=>hz3 h.symm
    simp [DU,this]
theorem Aw {d:bq} {e:Event} (h:code d e=0):pJ e=true/\ix d.fL e.cC<0/\gQ (λi=>decide (0<=ix d.fL (Go.Proofs.YtelcbdmigiacpaaGreat.par e i))) 0 e.ag.length=true:=by
 unfold code at h
 split at h
 ·cases h
 ·rename_i c1
  split at h
  ·cases h
  ·split at h
   ·cases h
   ·rename_i c3
    split at h
    ·cases h
    ·rename_i c4
     refine⟨by simpa using c1,Int.not_le.1 c3,?_⟩
     cases hh:gQ (λi=>decide (0<=ix d.fL (Go.Proofs.YtelcbdmigiacpaaGreat.par e i))) 0 e.ag.length with
     | true=>rfl
     | false=>exact absurd hh c4
theorem BE {e:Event} {p:BA} (h:p∈e.ag):∃ i,i<e.ag.length/\par e i=p:=by
 obtain⟨i,hi,rfl⟩:=List.mem_iff_getElem.1 h
 exact⟨i,hi,by unfold par;rw [gD,gE hi];rfl⟩
theorem Dw {d:bq} {e:Event} (hg:Good d.fL) (hc:code d e=0):Good (d.fL++[e]):=by
 obtain⟨_,h1,h2⟩:=Aw hc
 refine⟨?_,λi hi p hp=>?_⟩
 ·rw [List.map_append,List.nodup_append]
  refine⟨hg.uq,List.nodup_cons.2 ⟨sM,List.nodup_nil⟩,λa ha b hb=>?_⟩
  obtain⟨x,hx,rfl⟩:=List.mem_map.1 ha
  simp at hb
  rw [hb]
  intro he
  obtain⟨j,hj,rfl⟩:=vl hx
  rcases nO d.fL e.cC with⟨_,k⟩|⟨q,k,_⟩
  ·exact k j hj he
  ·omega
 ·rw [List.length_append,List.length_singleton] at hi
  rcases Nat.lt_or_ge i d.fL.length with k | k
  ·rw [oA k] at hp
   obtain⟨j,hj,he⟩:=hg.cl i k p hp
   exact⟨j,hj,by rw [oA om];exact he⟩
  ·obtain rfl:i=d.fL.length:=om
   rw [rF] at hp
   obtain⟨q,hq,rfl⟩:=BE hp
   have:=mO.1 h2 q om hq
   rcases nO d.fL (par e q) with⟨k1,_⟩|⟨j,k1,hj,he⟩
   ·simp [k1] at this
   ·exact⟨j,hj,by rw [oA hj];exact he⟩
theorem F3 {m:bM} {d:bq} {e:Event} (hr:Au m d) (he:Event.ok e) (hl:d.fL.length<=100000):∃ m',Ev (λk=>dag_Dag_Add.f k m e) (code d e,m')/\(code d e≠0->m'=m)/\(code d e=0->Au m' ⟨d.aj,d.fL++[e]⟩):=by
 obtain⟨m',h1,h2,h3⟩:=Hg hr.rel he (Is hr.Fc hl)
 refine⟨m',h1,h2,λhc=>?_⟩
 obtain⟨a1,a2,r,a3,a4⟩:=h3 hc
 obtain⟨c1,c2,c3⟩:=Aw hc
 have hg:=Dw hr.wC hc
 have hall:∀ i,i<e.ag.length->(mget m.aw (par e i)).isSome=true:=λi hi=>by
  have h1:=mO.1 c3 i om hi
  rcases s7 hr.rel (par e i) with⟨q,_⟩|⟨j,q,_,_,nd,h,_⟩
  ·simp [q] at h1
  ·rw [h];rfl
 have hkeys:m.aw.map (·.1)=d.fL.map (·.cC):=by
  rw [<- xz,<- hr.Fc];unfold T;rw [List.map_map];rfl
 have hnd:(m.aw.map (·.1)).Nodup:=by rw [hkeys];exact hr.wC.uq
 obtain⟨r',b1,b2⟩:=markF he _ 0 rfl om 0 m hall hnd
 have hrr:r'=r:=Ev.uniq b1.diag a3.diag
 subst hrr
 have cm:=c1
 unfold pJ at cm
 simp at cm
 have hself:e.cC ∉ e.ag:=λhp=>by
  obtain⟨q,hq,hq2⟩:=BE hp
  have:=mO.1 cm.2.2.2.2.2.2.2 q om hq
  unfold sK at this
  simp [hq2] at this
 refine⟨a1,by rw [a2,hr.Fc,rD],hg,λx hx=>?_,λx hx=>?_,λx hx=>?_,λx hx=>?_⟩
 ·rcases List.mem_append.1 hx with k | k
  ·exact hr.par x k
  ·rw [List.mem_singleton.1 k];exact cm.2.2.2.1
 ·rcases List.mem_append.1 hx with k | k
  ·exact hr.mC x k
  ·rw [List.mem_singleton.1 k];have:=cm.2.2.2.2.1;have:=cm.2.2.2.2.2.1;omega
 ·rcases List.mem_append.1 hx with k | k
  ·exact hr.usr x k
  ·rw [List.mem_singleton.1 k];exact he.2.2.2.2.1
 ·rw [a4] at hx
  have hnew:mget r'.2.2.2.aw e.cC=none:=by
   cases hh:mget r'.2.2.2.aw e.cC with
   | none=>rfl
   | some v=>
    obtain⟨z,hz,e1,_⟩:=b2 _ (sc hh)
    have:e.cC∈m.aw.map (·.1):=by rw [show e.cC=z.1 from e1];exact List.mem_map.2 ⟨z,hz,rfl⟩
    rw [hkeys] at this
    obtain⟨x2,hx2,hx3⟩:=List.mem_map.1 this
    obtain⟨j,hj,rfl⟩:=vl hx2
    rcases nO d.fL e.cC with⟨_,k⟩|⟨q,k,_⟩
    ·exact absurd hx3 (k j hj)
    ·omega
  rw [sI hnew] at hx
  have happ:∀ id,tI (d.fL++[e]) id=(tI d.fL id||DU e.ag id):=λid=>by unfold tI;rw [List.any_append];simp
  show x.2.lG=tI (d.fL++[e]) x.1
  rcases List.mem_append.1 hx with k | k
  ·obtain⟨z,hz,e1,e2⟩:=b2 x k
   rw [e2,e1,happ,hr.flg z hz,List.drop_zero]
  ·rw [List.mem_singleton.1 k,happ]
   show false=(tI d.fL e.cC||DU e.ag e.cC)
   rw [H5 hself]
   cases hp:tI d.fL e.cC with
   | false=>rfl
   | true=>
    exfalso
    unfold tI at hp
    obtain⟨y,hy,hy2⟩:=List.any_eq_true.1 hp
    obtain⟨i,hi,rfl⟩:=vl hy
    obtain⟨j,hj,hje⟩:=hr.wC.cl i hi _ (BU.1 hy2)
    rcases nO d.fL e.cC with⟨_,k⟩|⟨q,k,_⟩
    ·exact k j om hje
    ·omega
def kc (w:dm) (room:BA):bq:=(w.fD.find? λd=>decide (d.aj=room)).getD ⟨room,[]⟩
theorem zd (w:dm) (room:BA):(kc w room).aj=room:=by
 unfold kc
 cases h:w.fD.find? λd=>decide (d.aj=room) with
 | none=>rfl
 | some d=>simpa using List.find?_some h
theorem vQ {w:dm} {room:BA} (hl:w.fD.length<=100000):Ev (λk=>kb.f k w room) (kc w room):=by
 unfold kb.f
 have key:∀ n x:Nat,w.fD.length-x=n->x<=w.fD.length->∃ r:(Int×Bool) ⊕ bq,El (λk j=>kb.l0 k w room j (x:Int)) r/\fall (λ(p555:Int×Bool)=>some (⟨room,([]:List Event)⟩:bq)) r=some (((w.fD.drop x).find? λd=>decide (d.aj=room)).getD ⟨room,[]⟩):=by
  intro n
  induction n with
  | zero=>
   intro x hd hx
   obtain rfl:x=w.fD.length:=om
   refine⟨.inl ((w.fD.length:Int),false),?_,by simp [fall]⟩
   refine El.step (λ_ _=>by rw [kb.l0]) ?_
   exact El.cf sM (by simpa using El.pure)
  | succ n ih=>
   intro x hd hx
   have hx2:x<w.fD.length:=om
   have e1:bq.K.at w.fD (x:Int)=w.fD[x]:=by rw [BJ _ _ default hx2,gD,gE hx2];rfl
   rw [List.drop_eq_getElem_cons hx2,List.find?_cons]
   cases hq:decide (w.fD[x].aj=room) with
   | true=>
    refine⟨.inr w.fD[x],?_,rfl⟩
    refine El.step (λ_ _=>by rw [kb.l0]) ?_
    rw [e1]
    exact El.ct (by simpa using hx2) (El.aF ⟨om,om⟩ (El.ct hq (El.aF ⟨om,om⟩ El.pure)))
   | false=>
    obtain⟨r,h1,h2⟩:=ih (x+1) om om
    refine⟨r,?_,h2⟩
    refine El.step (λ_ _=>by rw [kb.l0]) ?_
    rw [e1,c7 (x:=(x:Int)+1) om om]
    exact El.ct (by simpa using hx2) (El.aF ⟨om,om⟩ (El.cf hq h1))
 obtain⟨r,h1,h2⟩:=key _ 0 rfl om
 exact Ev.bind h1.diag (Ev.of h2)
structure yj (v:au) (w:dm):Prop where
 E8:∀ d∈w.fD,∃ m,mget v.b9 d.aj=some m/\Au m d
 Fe:∀ room,(∀ d∈w.fD,d.aj≠room)->mget v.b9 room=none
 nd:(w.fD.map (·.aj)).Nodup
 ndv:Nd v.b9
 IA:C6 (w.fD.map (·.aj))
 ne:∀ d∈w.fD,d.fL≠[]
theorem EL:yj ⟨[]⟩ ⟨[]⟩:=⟨λd h=>(by cases h),λ_ _=>rfl,List.nodup_nil,xZ,List.Pairwise.nil,λd h=>(by cases h)⟩
theorem q8 {v:au} {w:dm} (hr:yj v w) (room:BA):∃ m,aV.f v room=some m/\Au m (kc w room)/\(∀ x,mget v.b9 room=some x->x=m):=by
 unfold aV.f kc
 cases h:w.fD.find? λd=>decide (d.aj=room) with
 | none=>
  have h1:mget v.b9 room=none:=hr.Fe room λd hd=>by simpa using List.find?_eq_none.1 h d hd
  rw [h1]
  exact⟨_,rfl,Du room,λx hx=>by cases hx⟩
 | some d=>
  obtain⟨m,h1,h2⟩:=hr.E8 d (List.mem_of_find?_eq_some h)
  have h3:d.aj=room:=by simpa using List.find?_some h
  rw [h3] at h1
  rw [h1]
  exact⟨m,rfl,h2,λx hx=>(Option.some.inj hx).symm⟩
theorem Eh {w:dm} {e:Event} {t:bq×Int} (hl:w.fD.length<=100000):∀ n x:Nat,w.fD.length-x=n->x<=w.fD.length->∀ (dn:Bool) (out:List bq),out.length<=2*x->
  ∃ r:Bool×Int×Bool×List bq,El (λk j=>eT.l0 k w e t j dn (x:Int) out) r/\(dn=true->r.1=true)/\r.2.2.2.length<=2*w.fD.length/\
   r.2.2.2.Perm ((if dn=false/\r.1=true then [t.1] else [])++(out++(w.fD.drop x).filter λd=>!decide (d.aj=e.aj))):=by
 intro n
 induction n with
 | zero=>
  intro x hd hx dn out ho
  obtain rfl:x=w.fD.length:=om
  refine⟨(dn,(w.fD.length:Int),false,out),?_,λh=>h,ho,?_⟩
  ·refine El.step (λ_ _=>by rw [eT.l0]) ?_
   exact El.cf sM (by simpa using El.pure)
  ·cases dn <;> simp
 | succ n ih=>
  intro x hd hx dn out ho
  have hx2:x<w.fD.length:=om
  have e1:bq.K.at w.fD (x:Int)=w.fD[x]:=by rw [BJ _ _ default hx2,gD,gE hx2];rfl
  obtain⟨pt,hpt⟩:∃ pt:Bool,pt=(!dn && !il (w.fD[x].aj) e.aj):=⟨_,rfl⟩
  obtain⟨b,hb⟩:∃ b:Bool,El (λ(k j:Nat)=>cond (!dn) (aF ((0:Int)<=(x:Int)/\(x:Int)<(w.fD.length:Int)) (cond (!il (w.fD[x].aj) e.aj) (aF (out.length+([t.1]:List bq).length<=9223372036854775807/\(out.length+([t.1]:List bq).length)*40<=140737488355328) (some (true,!il (w.fD[x].aj) e.aj,out++([t.1]:List bq)))) (some (dn,!il (w.fD[x].aj) e.aj,out)))) (some (dn,false,out))) (dn||pt,b,if pt then out++[t.1] else out):=by
   cases dn with
   | true=>exact⟨false,by rw [hpt];exact El.cf rfl El.pure⟩
   | false=>
    cases hs:il (w.fD[x].aj) e.aj with
    | true=>exact⟨false,by rw [hpt,hs];exact El.ct rfl (El.aF ⟨om,om⟩ (El.cf rfl El.pure))⟩
    | false=>exact⟨true,by rw [hpt,hs];exact El.ct rfl (El.aF ⟨om,om⟩ (El.ct rfl (El.aF ⟨by simp;omega,by simp;omega⟩ El.pure)))⟩
  have hol:(if pt then out++[t.1] else out).length<=2*x+1:=by cases pt <;> simp <;> omega
  have hstep:∀ {r},El (λk j=>cond (!decide ((w.fD[x].aj)=e.aj)) (aF ((0:Int)<=(x:Int)/\(x:Int)<(w.fD.length:Int)) (aF ((if pt then out++[t.1] else out).length+([w.fD[x]]:List bq).length<=9223372036854775807/\((if pt then out++[t.1] else out).length+([w.fD[x]]:List bq).length)*40<=140737488355328) (eT.l0 k w e t j (dn||pt) (aE ((x:Int)+1)) ((if pt then out++[t.1] else out)++([w.fD[x]]:List bq))))) (eT.l0 k w e t j (dn||pt) (aE ((x:Int)+1)) (if pt then out++[t.1] else out))) r->El (λk j=>eT.l0 k w e t j dn (x:Int) out) r:=λh=>by
   refine El.step (λ_ _=>by rw [eT.l0]) ?_
   rw [e1]
   exact El.ct (by simpa using hx2) (El.bind hb (El.aF ⟨om,om⟩ h))
  have hperm:∀ {r:Bool} {X:List bq} {tl:List bq},(dn=true->(dn||pt)=true)->((dn||pt)=true->r=true)->X.Perm ((if (dn||pt)=false/\r=true then [t.1] else [])++((if pt then out++[t.1] else out)++tl))->X.Perm ((if dn=false/\r=true then [t.1] else [])++(out++tl)):=λ{r X tl} _ hmono hX=>by
   cases dn with
   | true=>
        have:pt=false:=by rw [hpt];rfl
        subst this;simpa using hX
   | false=>
    cases pt with
    | false=>simpa using hX
    | true=>
     have:r=true:=hmono rfl
     subst this
     simp only [Bool.or_true,Bool.true_eq_false,false_and,if_false,if_true,List.nil_append,and_self,List.singleton_append] at hX ⊢
     refine hX.trans ?_
     rw [List.append_assoc]
     exact List.perm_middle
  rw [List.drop_eq_getElem_cons hx2,List.filter_cons]
  cases hq:decide (w.fD[x].aj=e.aj) with
  | true=>
   obtain⟨r,h1,h2,h3,h4⟩:=ih (x+1) om om (dn||pt) (if pt then out++[t.1] else out) om
   refine⟨r,hstep (El.cf (by rw [hq];rfl) ?_),λh=>h2 (by rw [h];rfl),h3,?_⟩
   ·rw [c7 (x:=(x:Int)+1) om om];exact h1
   ·simpa using hperm (λh=>by rw [h];rfl) h2 h4
  | false=>
   obtain⟨r,h1,h2,h3,h4⟩:=ih (x+1) om om (dn||pt) ((if pt then out++[t.1] else out)++[w.fD[x]]) (by rw [List.length_append];simp;omega)
   refine⟨r,hstep (El.ct (by rw [hq];rfl) (El.aF ⟨om,om⟩ (El.aF ⟨by simp only [List.length_singleton];omega,by simp only [List.length_singleton];omega⟩ ?_))),λh=>h2 (by rw [h];rfl),h3,?_⟩
   ·rw [c7 (x:=(x:Int)+1) om om];exact h1
   ·have:=hperm (X:=r.2.2.2) (r:=r.1) (tl:=w.fD[x]::(w.fD.drop (x+1)).filter λd=>!decide (d.aj=e.aj)) (λh=>by rw [h];rfl) h2 (by rw [List.append_assoc] at h4;simpa using h4)
    simpa using this
theorem G4 {w:dm} {e:Event} {t:bq×Int} (ht:t.1.aj=e.aj) (hl:w.fD.length<=100000):∀ n x:Nat,w.fD.length-x=n->x<=w.fD.length->∀ (dn:Bool) (out:List bq),out.length<=2*x->
  ∃ r:Bool×Int×Bool×List bq,El (λk j=>eT.l0 k w e t j dn (x:Int) out) r/\(if r.1=true then r.2.2.2 else r.2.2.2++[t.1]).map (·.aj)=out.map (·.aj)++putG e.aj dn ((w.fD.drop x).map (·.aj)):=by
 intro n
 induction n with
 | zero=>
  intro x hd hx dn out ho
  obtain rfl:x=w.fD.length:=om
  refine⟨(dn,(w.fD.length:Int),false,out),?_,?_⟩
  ·refine El.step (λ_ _=>by rw [eT.l0]) ?_
   exact El.cf sM (by simpa using El.pure)
  ·rw [List.drop_length]
   cases dn <;> simp [putG,ht]
 | succ n ih=>
  intro x hd hx dn out ho
  have hx2:x<w.fD.length:=om
  have e1:bq.K.at w.fD (x:Int)=w.fD[x]:=by rw [BJ _ _ default hx2,gD,gE hx2];rfl
  obtain⟨pt,hpt⟩:∃ pt:Bool,pt=(!dn && !il (w.fD[x].aj) e.aj):=⟨_,rfl⟩
  obtain⟨b,hb⟩:∃ b:Bool,El (λ(k j:Nat)=>cond (!dn) (aF ((0:Int)<=(x:Int)/\(x:Int)<(w.fD.length:Int)) (cond (!il (w.fD[x].aj) e.aj) (aF (out.length+([t.1]:List bq).length<=9223372036854775807/\(out.length+([t.1]:List bq).length)*40<=140737488355328) (some (true,!il (w.fD[x].aj) e.aj,out++([t.1]:List bq)))) (some (dn,!il (w.fD[x].aj) e.aj,out)))) (some (dn,false,out))) (dn||pt,b,if pt then out++[t.1] else out):=by
   cases dn with
   | true=>exact⟨false,by rw [hpt];exact El.cf rfl El.pure⟩
   | false=>
    cases hs:il (w.fD[x].aj) e.aj with
    | true=>exact⟨false,by rw [hpt,hs];exact El.ct rfl (El.aF ⟨om,om⟩ (El.cf rfl El.pure))⟩
    | false=>exact⟨true,by rw [hpt,hs];exact El.ct rfl (El.aF ⟨om,om⟩ (El.ct rfl (El.aF ⟨by simp;omega,by simp;omega⟩ El.pure)))⟩
  have hol:(if pt then out++[t.1] else out).length<=2*x+1:=by cases pt <;> simp <;> omega
  have hstep:∀ {r},El (λk j=>cond (!decide ((w.fD[x].aj)=e.aj)) (aF ((0:Int)<=(x:Int)/\(x:Int)<(w.fD.length:Int)) (aF ((if pt then out++[t.1] else out).length+([w.fD[x]]:List bq).length<=9223372036854775807/\((if pt then out++[t.1] else out).length+([w.fD[x]]:List bq).length)*40<=140737488355328) (eT.l0 k w e t j (dn||pt) (aE ((x:Int)+1)) ((if pt then out++[t.1] else out)++([w.fD[x]]:List bq))))) (eT.l0 k w e t j (dn||pt) (aE ((x:Int)+1)) (if pt then out++[t.1] else out))) r->El (λk j=>eT.l0 k w e t j dn (x:Int) out) r:=λh=>by
   refine El.step (λ_ _=>by rw [eT.l0]) ?_
   rw [e1]
   exact El.ct (by simpa using hx2) (El.bind hb (El.aF ⟨om,om⟩ h))
  have hdn:(dn||pt)=(dn || !il (w.fD[x].aj) e.aj):=by rw [hpt];cases dn <;> rfl
  have hout:(if pt then out++[t.1] else out).map (·.aj)=out.map (·.aj)++(if (!dn && !il (w.fD[x].aj) e.aj) then [e.aj] else []):=by
   rw [<- hpt];cases pt <;> simp [ht]
  rw [List.drop_eq_getElem_cons hx2,List.map_cons]
  cases hq:decide (w.fD[x].aj=e.aj) with
  | true=>
   obtain⟨r,h1,h2⟩:=ih (x+1) om om (dn||pt) (if pt then out++[t.1] else out) om
   refine⟨r,hstep (El.cf (by rw [hq];rfl) ?_),?_⟩
   ·rw [c7 (x:=(x:Int)+1) om om];exact h1
   ·rw [h2,hout,hdn,List.append_assoc]
    congr 1
    simp only [putG,if_pos (of_decide_eq_true hq),List.nil_append]
  | false=>
   obtain⟨r,h1,h2⟩:=ih (x+1) om om (dn||pt) ((if pt then out++[t.1] else out)++[w.fD[x]]) (by rw [List.length_append];simp;omega)
   refine⟨r,hstep (El.ct (by rw [hq];rfl) (El.aF ⟨om,om⟩ (El.aF ⟨by simp only [List.length_singleton];omega,by simp only [List.length_singleton];omega⟩ ?_))),?_⟩
   ·rw [c7 (x:=(x:Int)+1) om om];exact h1
   ·rw [h2,List.map_append,hout,hdn,List.append_assoc,List.append_assoc]
    congr 1
    simp only [putG,if_neg (of_decide_eq_false hq),List.map_cons,List.map_nil]
theorem Gy {w:dm} {e:Event} (he:Event.ok e) (hl:w.fD.length<=100000) (hd:(kc w e.aj).fL.length<=100000):
  ∃ w',Ev (λk=>eT.f k w e) (w',code (kc w e.aj) e)/\(code (kc w e.aj) e≠0->w'=w)/\
   (code (kc w e.aj) e=0->w'.fD.Perm (⟨e.aj,(kc w e.aj).fL++[e]⟩::w.fD.filter λd=>!decide (d.aj=e.aj))/\w'.fD.map (·.aj)=putG e.aj false (w.fD.map (·.aj))):=by
 unfold eT.f
 by_cases hc:code (kc w e.aj) e=0
 ·have h1:=z6 he hd
  rw [if_pos hc,zd] at h1
  obtain⟨r,l1,l2,l3,l4⟩:=Eh (w:=w) (e:=e) (t:=((⟨e.aj,(kc w e.aj).fL++[e]⟩:bq),0)) hl _ 0 rfl om false [] sM
  obtain⟨r',l1',l5⟩:=G4 (w:=w) (e:=e) (t:=((⟨e.aj,(kc w e.aj).fL++[e]⟩:bq),0)) rfl hl _ 0 rfl om false [] sM
  have hrr:r'=r:=Ev.uniq l1'.diag l1.diag
  subst hrr
  rw [List.drop_zero,List.map_nil,List.nil_append] at l5
  rw [hc]
  cases hr:r'.1 with
  | false=>
   refine⟨⟨r'.2.2.2++[(⟨e.aj,(kc w e.aj).fL++[e]⟩:bq)]⟩,Ev.bind (vQ hl) (Ev.bind h1 (Ev.cf rfl (Ev.bind l1.diag (Ev.ct (by rw [hr];rfl) (Ev.aF ⟨by simp;omega,by simp;omega⟩ Ev.pure))))),λh=>absurd rfl h,λ_=>?_⟩
   rw [hr] at l4 l5
   simp at l4
   exact⟨(List.perm_append_comm).trans (l4.cons _),l5⟩
  | true=>
   refine⟨⟨r'.2.2.2⟩,Ev.bind (vQ hl) (Ev.bind h1 (Ev.cf rfl (Ev.bind l1.diag (Ev.cf (by rw [hr];rfl) Ev.pure)))),λh=>absurd rfl h,λ_=>?_⟩
   rw [hr] at l4 l5
   exact⟨by simpa using l4,l5⟩
 ·have h1:=z6 he hd
  rw [if_neg hc] at h1
  exact⟨w,Ev.bind (vQ hl) (Ev.bind h1 (Ev.ct (by simpa using hc) Ev.pure)),λ_=>rfl,λh=>absurd h hc⟩
theorem CJ {l l':List bq} {room:BA} (hp:l.Perm l') (hn:(l.map (·.aj)).Nodup):(l.find? λd=>decide (d.aj=room))=l'.find? λd=>decide (d.aj=room):=by
 have hn':(l'.map (·.aj)).Nodup:=(hp.map _).nodup_iff.1 hn
 have one:∀ {l:List bq},(l.map (·.aj)).Nodup->∀ {x y},x∈l->y∈l->x.aj=y.aj->x=y:=λ{l} hn x y hx hy e=>by
  induction l with
  | nil=>cases hx
  | cons a l ih=>
   rw [List.map_cons,List.nodup_cons] at hn
   rcases List.mem_cons.1 hx with h1 | h1 <;> rcases List.mem_cons.1 hy with h2 | h2
   ·rw [h1,h2]
   ·exact absurd (List.mem_map.2 ⟨y,h2,by rw [<- h1];exact e.symm⟩) hn.1
   ·exact absurd (List.mem_map.2 ⟨x,h1,by rw [<- h2];exact e⟩) hn.1
   ·exact ih hn.2 h1 h2
 cases h:l.find? λd=>decide (d.aj=room) with
 | none=>
  symm
  rw [List.find?_eq_none] at h ⊢
  exact λx hx=>h x (hp.mem_iff.2 hx)
 | some d=>
  cases h':l'.find? λd=>decide (d.aj=room) with
  | none=>rw [List.find?_eq_none] at h';exact absurd (List.find?_some h) (h' d (hp.mem_iff.1 (List.mem_of_find?_eq_some h)))
  | some d'=>
   have a:d.aj=room:=by simpa using List.find?_some h
   have b:d'.aj=room:=by simpa using List.find?_some h'
   rw [one hn (List.mem_of_find?_eq_some h) (hp.mem_iff.2 (List.mem_of_find?_eq_some h')) (a.trans b.symm)]
theorem Gt {w w':dm} {d:bq} (hn:(w.fD.map (·.aj)).Nodup) (hp:w'.fD.Perm (d::w.fD.filter λx=>!decide (x.aj=d.aj))):(w'.fD.map (·.aj)).Nodup/\∀ room,kc w' room=if room=d.aj then d else kc w room:=by
 have hn2:((d::w.fD.filter λx=>!decide (x.aj=d.aj)).map (·.aj)).Nodup:=by
  rw [List.map_cons,List.nodup_cons]
  refine⟨λh=>?_,(hn.sublist ((List.filter_sublist ..).map _))⟩
  obtain⟨x,hx,e⟩:=List.mem_map.1 h
  simp at hx;exact hx.2 e
 have hn3:=(hp.map (·.aj)).nodup_iff.2 hn2
 refine⟨hn3,λroom=>?_⟩
 unfold kc
 rw [CJ hp hn3,List.find?_cons]
 by_cases h:room=d.aj
 ·rw [if_pos h,dT h.symm];rfl
 ·rw [if_neg h,dF (λe=>h e.symm)]
  have key:((w.fD.filter λx=>!decide (x.aj=d.aj)).find? λd=>decide (d.aj=room))=w.fD.find? λd=>decide (d.aj=room):=by
   rw [List.find?_filter]
   congr 1
   funext x
   by_cases hx:x.aj=room
   ·have:¬ x.aj=d.aj:=λe=>h (hx.symm.trans e)
    simp [hx];exact h
   ·simp [hx]
  show(((w.fD.filter λx=>!decide (x.aj=d.aj)).find? λd=>decide (d.aj=room))).getD _=_
  rw [key]
theorem F5 {v:au} {w:dm} {e:Event} (hr:yj v w) (he:Event.ok e) (hl:w.fD.length<=100000) (hd:(kc w e.aj).fL.length<=100000):
  ∃ v' w',Ev (λk=>iU.f k v e) (code (kc w e.aj) e,v')/\Ev (λk=>eT.f k w e) (w',code (kc w e.aj) e)/\yj v' w'/\
   (code (kc w e.aj) e≠0->w'=w/\v'=v)/\(code (kc w e.aj) e=0->(∀ room,kc w' room=if room=e.aj then ⟨e.aj,(kc w e.aj).fL++[e]⟩ else kc w room)/\w'.fD.length<=w.fD.length+1):=by
 obtain⟨w',r1,r2,r3⟩:=Gy he hl hd
 obtain⟨m,v1,v2,v3⟩:=q8 hr e.aj
 obtain⟨m',a1,a2,a3⟩:=F3 v2 he hd
 unfold iU.f
 by_cases hc:code (kc w e.aj) e=0
 ·obtain⟨hp,hpS⟩:=r3 hc
  obtain⟨n1,n2⟩:=Gt (d:=⟨e.aj,(kc w e.aj).fL++[e]⟩) hr.nd hp
  refine⟨⟨mput v.b9 e.aj m'⟩,w',?_,r1,⟨λd hdm=>?_,λroom hroom=>?_,n1,qQ hr.ndv,by rw [hpS];exact yX hr.IA,λd hdm=>by
   rcases List.mem_cons.1 (hp.mem_iff.1 hdm) with rfl | hdm
   ·simp
   ·exact hr.ne d (List.mem_filter.1 hdm).1⟩,λh=>absurd hc h,λ_=>⟨n2,?_⟩⟩
  ·rw [hc] at a1 ⊢
   exact Ev.bind (Ev.of v1) (Ev.bind a1 (Ev.cf rfl Ev.pure))
  ·rcases List.mem_cons.1 (hp.mem_iff.1 hdm) with rfl | hdm
   ·refine⟨m',by simp only [ir,if_true],?_⟩
    have:=a3 hc
    rwa [zd] at this
   ·simp at hdm
    obtain⟨m2,q1,q2⟩:=hr.E8 d hdm.1
    exact⟨m2,by simp only [ir,if_neg (λe=>hdm.2 e.symm:¬ e.aj=d.aj)];exact q1,q2⟩
  ·have h1:e.aj≠room:=hroom _ (hp.mem_iff.2 (List.mem_cons_self ..))
   simp only [ir,if_neg h1]
   refine hr.Fe room λd hdm hdr=>?_
   by_cases h2:d.aj=e.aj
   ·exact h1 (h2.symm.trans hdr)
   ·exact hroom d (hp.mem_iff.2 (List.mem_cons_of_mem _ (by simp [hdm,h2]))) hdr
  ·rw [hp.length_eq,List.length_cons]
   have:=List.length_filter_le (λd=>!decide (d.aj=e.aj)) w.fD
   exact Nat.succ_le_succ this
 ·obtain rfl:=r2 hc
  refine⟨v,w',?_,r1,hr,λ_=>⟨rfl,rfl⟩,λh=>absurd h hc⟩
  have:=a2 hc
  subst this
  refine Ev.bind (Ev.of v1) (Ev.bind a1 (Ev.ct (by simpa using hc) (Ev.of ?_)))
  have:wx v.b9 e.aj m'=v.b9:=w5 v3
  rw [this]
def Hk (n:Int):Prop:=-9223372036854775808<=n/\n<=9223372036854775807
theorem mq {n m:Int} (hn:Hk n) (h0:0<m) (hm:m<=9223372036854775807):∃ r,dq.f n m=some r/\0<=r/\r<m:=by
 obtain⟨h1,h2⟩:=hn
 unfold dq.f
 have hne:m≠0:=om
 by_cases h:n<0
 ·rw [dT h,c7 (x:=n+1) om om,c7 om om]
  refine⟨(0-(n+1)).tmod m,by simp only [cond_true,aF,if_pos hne],?_⟩
  rw [Int.tmod_eq_emod_of_nonneg om]
  exact⟨Int.emod_nonneg _ hne,Int.emod_lt_of_pos _ h0⟩
 ·rw [dF h]
  refine⟨n.tmod m,by simp only [cond_false,aF,if_pos hne],?_⟩
  rw [Int.tmod_eq_emod_of_nonneg om]
  exact⟨Int.emod_nonneg _ hne,Int.emod_lt_of_pos _ h0⟩
def ly:List BA:=[⟨#[33,114,58,115,49]⟩,⟨#[33,113,58,115,50]⟩]
def oI:List BA:=[⟨#[64,97,58,115,49]⟩,⟨#[64,97,58,115,50]⟩,⟨#[64,97,58,115,51]⟩,⟨#[64,98,58,115,49]⟩,⟨#[64,98,58,115,50]⟩,⟨#[64,98,58,115,51]⟩,⟨#[64,99,58,115,49]⟩,⟨#[64,99,58,115,50]⟩,⟨#[64,99,58,115,51]⟩]
theorem int_lt {r:Int} {n:Nat} (h0:0<=r) (h1:r<n):∃ k:Nat,k<n/\r=(k:Int):=⟨r.toNat,om,om⟩
theorem Cd {n:Int} (hn:Hk n):∃ r,iK.f n=some r/\r∈ly:=by
 obtain⟨m,h1,h2,h3⟩:=mq (m:=2) hn dc dc
 unfold iK.f
 rw [h1]
 obtain⟨k,hk,rfl⟩:=int_lt (n:=2) h2 h3
 have:∀ k:Nat,k<2->∃ r,((some (k:Int)).bind λt340=>aF ((0:Int)<=t340/\t340<(([(⟨#[33,114,58,115,49]⟩:BA),(⟨#[33,113,58,115,50]⟩:BA)]:List BA).length:Int)) (some (az.at ([(⟨#[33,114,58,115,49]⟩:BA),(⟨#[33,113,58,115,50]⟩:BA)]:List BA) t340)))=some r/\r∈ly:=by
  intro k hk
  match k,hk with
  | 0,_=>exact⟨_,rfl,List.mem_of_getElem? (i:=0) rfl⟩
  | 1,_=>exact⟨_,rfl,List.mem_of_getElem? (i:=1) rfl⟩
 exact this k hk
theorem C5:∀ k:Nat,k<9->∃ r,kE.f (k:Int)=some r/\oI[k]? = some r:=by
 intro k hk
 match k,hk with
 | 0,_=>exact⟨_,rfl,rfl⟩
 | 1,_=>exact⟨_,rfl,rfl⟩
 | 2,_=>exact⟨_,rfl,rfl⟩
 | 3,_=>exact⟨_,rfl,rfl⟩
 | 4,_=>exact⟨_,rfl,rfl⟩
 | 5,_=>exact⟨_,rfl,rfl⟩
 | 6,_=>exact⟨_,rfl,rfl⟩
 | 7,_=>exact⟨_,rfl,rfl⟩
 | 8,_=>exact⟨_,rfl,rfl⟩
theorem sf {k m:Nat} (h:k<m) (hm:0<m):dq.f (k:Int) (m:Int)=some (k:Int):=by
 unfold dq.f
 have:¬ ((k:Int)<0):=om
 have hne:(m:Int)≠0:=om
 rw [dF this]
 simp only [cond_false,aF,if_pos hne]
 rw [Int.tmod_eq_emod_of_nonneg om,Int.emod_eq_of_lt om om]
theorem w4 {n:Int} (hn:Hk n):∃ r,kE.f n=some r/\r∈oI:=by
 obtain⟨m,h1,h2,h3⟩:=mq (m:=9) hn dc dc
 obtain⟨k,hk,rfl⟩:=int_lt (n:=9) h2 h3
 obtain⟨r,hr,hu⟩:=C5 k hk
 refine⟨r,?_,List.mem_of_getElem? hu⟩
 rw [<- hr]
 unfold kE.f
 rw [h1,show(9:Int)=((9:Nat):Int) from rfl,sf hk dc]
theorem qD {n:Int} (h:(Lit.int .i64 n).wf=true):Hk n:=by
 have h':IntKind.i64.min<=n/\n<=9223372036854775807:=by simpa [Lit.wf] using h
 have e:IntKind.i64.min = -9223372036854775808:=dc
 unfold Hk
 omega
def mZ (k:Nat):BA:=⟨#[36,101,UInt8.ofNat (48+k)]⟩
theorem vt:∀ k,k<9->kQ (mZ k)=true:=λk hk=>by
 have h:(List.range 9).all (λk=>kQ (mZ k))=true:=kr
 exact List.all_eq_true.1 h k (List.mem_range.2 hk)
theorem DI {j k:Nat} (h:j<k) (hk:k<9):il (mZ j) (mZ k)=true:=by
 have h2:(List.range 9).all (λk=>(List.range k).all λj=>il (mZ j) (mZ k))=true:=kr
 exact List.all_eq_true.1 (List.all_eq_true.1 h2 k (List.mem_range.2 hk)) j (List.mem_range.2 h)
theorem xS {j k:Nat} (h:j<k) (hk:k<9):mZ j≠mZ k:=EF (DI h hk)
theorem BN {j k:Nat} (hj:j<9) (hk:k<9) (h:mZ j=mZ k):j=k:=by
 rcases Nat.lt_trichotomy j k with h1 | h1 | h1
 ·exact absurd h (xS h1 hk)
 ·exact h1
 ·exact absurd h.symm (xS h1 hj)
theorem qE (k:Nat):(mZ k).size<=maxLen:=by show(3:Nat)<=9223372036854775807;omega
theorem B3 (k:Nat):mZ k≠⟨#[]⟩:=λh=>by
 have:=congrArg (λs:BA=>s.size) h
 exact absurd this (by show ¬ (3:Nat)=0;decide)
theorem kB:∀ k:Nat,k<9->Ev (λn=>dw.f n (k:Int)) (mZ k):=by
 intro k hk
 refine Ev.add 2 λm=>?_
 match k,hk with
 | 0,_=>rfl
 | 1,_=>rfl
 | 2,_=>rfl
 | 3,_=>rfl
 | 4,_=>rfl
 | 5,_=>rfl
 | 6,_=>rfl
 | 7,_=>rfl
 | 8,_=>rfl
theorem roomB {r:BA} (h:r∈ly):dh r 33=true:=by
 have h2:ly.all (λr=>dh r 33)=true:=kr
 exact List.all_eq_true.1 h2 r h
theorem userB {r:BA} (h:r∈oI):dh r 64=true:=by
 have h2:oI.all (λr=>dh r 64)=true:=kr
 exact List.all_eq_true.1 h2 r h
theorem CD {r:BA} (h:r∈ly):r.size<=maxLen:=by
 have h2:ly.all (λr=>decide (r.size<=10))=true:=kr
 have:=of_decide_eq_true (List.all_eq_true.1 h2 r h)
 show _<=9223372036854775807;omega
theorem Cm {r:BA} (h:r∈oI):r.size<=maxLen:=by
 have h2:oI.all (λr=>decide (r.size<=10))=true:=kr
 have:=of_decide_eq_true (List.all_eq_true.1 h2 r h)
 show _<=9223372036854775807;omega
theorem D9 {l S:List Nat} (hn:l.Nodup) (hs:∀ x∈l,x∈S):l.length<=S.length:=by
 induction l generalizing S with
 | nil=>simp
 | cons a l ih=>
  rw [List.nodup_cons] at hn
  have ha:=hs a (List.mem_cons_self ..)
  have h1:=ih (S:=S.erase a) hn.2 λx hx=>(List.mem_erase_of_ne λe=>hn.1 (by rw [<- e];exact hx)).2 (hs x (List.mem_cons_of_mem _ hx))
  rw [List.length_erase_of_mem ha] at h1
  have:=List.length_pos_of_mem ha
  simp only [List.length_cons];omega
structure MI (room:BA) (L:List Event):Prop where
 len:L.length<=9
 ids:∀ k,k<L.length->(ev L k).cC=mZ k
theorem Hv {room:BA} {L:List Event} (h:MI room L) {k:Nat} (hk:k<L.length):ix L (mZ k)=(k:Int):=by
 have hl:=h.len
 rcases nO L (mZ k) with⟨_,q⟩|⟨j,q,hj,he⟩
 ·exact absurd (h.ids k hk) (q k hk)
 ·rw [h.ids j hj] at he
  rw [q,BN om om he]
theorem IS {room:BA} {L:List Event} (h:MI room L) (hl:L.length<9):ix L (mZ L.length) = -1:=by
 rcases nO L (mZ L.length) with⟨q,_⟩|⟨j,q,hj,he⟩
 ·exact q
 ·rw [h.ids j hj] at he
  exact absurd (BN om hl he) om
theorem CY {room user th:BA} {L:List Event} {ks:List Nat} {mC:Int} (h:MI room L) (hl:L.length<9) (hr:room∈ly) (hu:user∈oI) (hk:∀ k∈ks,k<L.length) (hs:ks.Pairwise (· < ·)) (h4:ks.length<=3) (hd:0<=mC/\mC<3)
  (ht:th=⟨#[]⟩\/(mC=0/\∃ t,t<L.length/\th=mZ t/\(ev L t).cW=0/\(ev L t).ah=⟨#[]⟩)):code ⟨room,L⟩ ⟨mZ L.length,room,ks.map mZ,th,user,mC⟩=0:=by
 have hpar:∀ i,(hi:i<ks.length)->par ⟨mZ L.length,room,ks.map mZ,th,user,mC⟩ i=mZ ks[i]:=λi hi=>by
  unfold par
  rw [gD,List.getElem?_map,gE hi];rfl
 have hmay:pJ ⟨mZ L.length,room,ks.map mZ,th,user,mC⟩=true:=by
  unfold pJ
  simp only [vt _ hl,roomB hr,userB hu,Bool.true_and,List.length_map,Bool.and_eq_true,decide_eq_true_eq,mO]
  refine⟨om,hd.1,om,?_,λi _ hi=>?_⟩
  ·unfold wz
   rcases ht with ht | ⟨h0,t,h1,h2,_⟩
   ·simp [ht]
   ·simp only [h2,vt t om,h0,Bool.true_and,decide_true,Bool.and_true,Bool.or_eq_true,Bool.not_eq_true',decide_eq_false_iff_not]
    exact .inr (xS h1 hl)
  ·unfold sK
   rw [hpar i hi]
   have hki:=hk _ (List.getElem_mem hi)
   simp only [vt _ (show ks[i]<9 by omega),Bool.true_and,Bool.and_eq_true,Bool.not_eq_true',decide_eq_false_iff_not,Bool.or_eq_true,decide_eq_true_eq]
   refine⟨xS hki hl,?_⟩
   by_cases h0:i=0
   ·exact .inl h0
   ·right
    rw [hpar (i-1) om]
    exact DI (List.pairwise_iff_getElem.1 hs (i-1) i om hi om) om
 unfold code
 rw [hmay]
 have hall:gQ (λi=>decide (0<=ix L (par ⟨mZ L.length,room,ks.map mZ,th,user,mC⟩ i))) 0 (ks.map mZ).length=true:=by
  rw [mO]
  intro i _ hi
  rw [List.length_map] at hi
  rw [hpar i hi,Hv h (hk _ (List.getElem_mem hi))]
  simp
 simp only [Bool.true_eq_false,if_false,ne_eq,not_true_eq_false,IS h hl,hall]
 rw [if_neg om]
 rcases ht with ht | ⟨h0,t,h1,h2,h3,h5⟩
 ·simp [ht]
 ·rw [if_neg (by rw [h2];exact B3 t),h2,Hv h h1,Int.toNat_natCast,h3,h5]
  simp
theorem G2 {room user th:BA} {n:Nat} {ks:List Nat} {mC:Int} (hr:room∈ly) (hu:user∈oI) (h4:ks.length<=3) (hd:0<=mC/\mC<3) (ht:th=⟨#[]⟩\/∃ t,th=mZ t):Event.ok ⟨mZ n,room,ks.map mZ,th,user,mC⟩:=by
 refine⟨qE _,CD hr,⟨by rw [List.length_map];show _<=9223372036854775807;omega,λx hx=>?_⟩,?_,Cm hu,?_,trivial⟩
 ·obtain⟨k,_,rfl⟩:=List.mem_map.1 hx;exact qE k
 ·rcases ht with rfl | ⟨t,rfl⟩
  ·show(0:Nat)<=9223372036854775807;omega
  ·exact qE t
 ·have:mC=0\/mC=1\/mC=2:=om
  rcases this with rfl | rfl | rfl <;> rfl
end Go.Proofs.YtelcbdmigiacpaaGreat
