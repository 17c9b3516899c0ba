import Derived.Test.YtfknmdelgepbjaaGreatDoorWZMA
import Derived.Test.YtfknmdelgepbjaaGreatDoorWZWalks3
set_option linter.all false
set_option maxRecDepth 10000
namespace Go.Proofs.YtfknmdelgepbjaaGreatDoor
open Go Go.Sp
def lt (t:oO) (a b:Event):Prop:=ltOf fq (pos t a.bV) (pos t b.bV)=true
theorem La {t:oO} {a:Event} (h:lt t a a):False:=by have:=nD.irrefl (pos t a.bV); unfold lt at h; rw [h] at this; cases this
theorem JR {t:oO} {a b c:Event} (h:lt t a b) (k:lt t b c):lt t a c:=nD.trans _ _ _ h k
def xG (t:oO) (id:BA):Event:=((mget t id).map (·.1)).getD default
def PL (t:oO):List Pos:=t.map fun x=>⟨x.2.2,x.1⟩
def mU (t:oO):List Event:=(kY fq (PL t)).map fun p=>xG t p.bV
section
variable {t:oO} (hn:(t.map (·.1)).Nodup) (hi:∀ x∈t,x.2.1.bV=x.1)
include hn
theorem G0 {x:BA×(Event×Int)} (h:x∈t):mget t x.1=some x.2:=by
 obtain ⟨i,h1⟩:=List.mem_iff_getElem?.1 h
 exact zQ hn h1
theorem C6 {x:BA×(Event×Int)} (h:x∈t):xG t x.1=x.2.1:=by unfold xG; rw [G0 hn h]; rfl
theorem KG {x:BA×(Event×Int)} (h:x∈t):pos t x.1=⟨x.2.2,x.1⟩:=by unfold pos rJ; rw [G0 hn h]; rfl
theorem Eo:(mU t).Perm (t.map (·.2.1)):=by
 have h1:(mU t).Perm ((PL t).map fun p=>xG t p.bV):=(qn _).map _
 have h2:(PL t).map (fun p=>xG t p.bV)=t.map (·.2.1):=by
  unfold PL
  rw [List.map_map]
  exact List.map_congr_left fun x hx=>C6 hn hx
 rw [h2] at h1; exact h1
include hi
theorem Fx:(mU t).Pairwise (lt t):=by
 unfold mU
 rw [List.pairwise_map]
 have hnd:(kY fq (PL t)).Nodup:=by
  rw [(qn _).nodup_iff]
  have:((PL t).map (·.bV)).Nodup:=by unfold PL; rw [List.map_map]; exact hn
  exact List.Pairwise.of_map _ (fun a b h e=>h (congrArg _ e)) this
 have hp:∀ p∈kY fq (PL t),pos t (xG t p.bV).bV=p:=fun p hp=>by
  have:=(qn _).mem_iff.1 hp
  obtain ⟨x,hx,rfl⟩:=List.mem_map.1 this
  show pos t (xG t x.1).bV=_
  rw [C6 hn hx,hi x hx,KG hn hx]
 refine List.Pairwise.imp_of_mem ?_ ((zK nD (PL t)).and hnd)
 intro a b ha hb h
 show ltOf fq _ _=true
 rw [hp a ha,hp b hb]
 cases h2:ltOf fq a b with
 | true=>rfl
 | false=>exact absurd (qH a b h2 h.1) h.2
end
theorem J4 (L:List Event):∀ x∈tb L,x.2.1.bV=x.1:=by
 induction L using rR with
 | h0=>intro x hx; cases hx
 | h1 l e ih=>
  intro x hx
  rw [rA] at hx
  rcases List.mem_append.1 hx with h | h
  ·exact ih x h
  ·rw [List.mem_singleton.1 h]
theorem Ac {L:List Event} (hg:Good L):(mU (tb L)).Perm L:=by have:=Eo (uM hg); rwa [BV] at this
theorem Iy {L:List Event} (hg:Good L):(mU (tb L)).Pairwise (lt (tb L)):=Fx (uM hg) (J4 L)
theorem KN {e:Event} (h:e.ag.length≤4):iJ.f e=some e:=by
 unfold iJ.f dQ.f
 simp only [an]
 rw [if_pos ⟨om,om⟩]; rfl
structure RT (m:bp) (t:oO):Prop where
 Js:T m=t
 nd:(t.map (·.1)).Nodup
 id:∀ x∈t,x.2.1.bV=x.1
 par:∀ x∈t,x.2.1.ag.length≤4
 len:t.length≤1000
theorem KW {m:bp} {t:oO} (hr:RT m t):Ev (fun k=>dag_Dag_All.f k m) (mU t):=by
 have hfn:m.ao.length=t.length:=by rw [← hr.Js]; unfold T; rw [List.length_map]
 have hlen:=hr.len
 have e1:m.ao.filterMap aG.g=PL t:=by
  unfold PL
  rw [← hr.Js]
  unfold T
  rw [List.map_map,← List.filterMap_eq_map]
  rfl
 have hid:aG.f m=some ((kY fq (PL t)).map (·.bV)):=by
  unfold aG.f
  rw [e1]; simp only [an]; rw [if_pos om]
 have hS:∀ p∈kY fq (PL t),∃ x∈t,p.bV=x.1:=fun p hp=>by
  obtain ⟨x,hx,rfl⟩:=List.mem_map.1 ((qn _).mem_iff.1 hp); exact ⟨x,hx,rfl⟩
 have hSl:(kY fq (PL t)).length≤1000:=by rw [(qn _).length_eq]; unfold PL; rw [List.length_map]; exact hlen
 have loop:∀ S:List Pos,S.length≤1000→(∀ p∈S,∃ x∈t,p.bV=x.1)→∀ n x:Nat,S.length-x=n→x≤S.length→∀ out:List Event,out.length=x→
   El (fun k j=>dag_Dag_All.l0 k m (S.map (·.bV)) j (x:Int) out) (((S.map (·.bV)).length:Int),(S.length:Int),false,out++(S.drop x).map (fun p=>xG t p.bV),S.map (·.bV)):=by
  intro S hSl hS n
  induction n with
  | zero=>
   intro x hd hx out ho
   obtain rfl:x=S.length:=om
   refine El.step (fun _ _=>by rw [dag_Dag_All.l0]) ?_
   have:decide ((S.length:Int)<((S.map (·.bV)).length:Int))=false:=dF (by rw [List.length_map]; omega)
   rw [List.drop_length,List.map_nil,List.append_nil]
   exact El.cf this (by rw [this]; exact El.pure)
  | succ n ih=>
   intro x hd hx out ho
   have hx2:x<S.length:=om
   have hat:(S.map (·.bV)).getD x default=(S[x]).bV:=by rw [gD,List.getElem?_map,gE hx2]; rfl
   obtain ⟨y,hy,he⟩:=hS S[x] (List.getElem_mem hx2)
   have hg:mget t (S[x]).bV=some y.2:=by rw [he]; exact G0 hr.nd hy
   have hm:(mget m.ao (S[x]).bV).map (fun nd=>(nd.fe,nd.cK))=some y.2:=by rw [← Am,hr.Js]; exact hg
   obtain ⟨nd,hnd⟩:∃ nd,mget m.ao (S[x]).bV=some nd:=by
    cases h:mget m.ao (S[x]).bV with
    | none=>rw [h] at hm; cases hm
    | some nd=>exact ⟨nd,rfl⟩
   have hfe:nd.fe=xG t (S[x]).bV:=by
    rw [hnd] at hm
    unfold xG
    rw [hg,← Option.some.inj hm]; rfl
   have hpl:nd.fe.ag.length≤4:=by
    rw [hnd] at hm
    have:=congrArg Prod.fst (Option.some.inj hm)
    simp only at this
    rw [this]; exact hr.par y hy
   refine El.step (fun _ _=>by rw [dag_Dag_All.l0]) ?_
   rw [Int.toNat_natCast,hat]
   refine El.ct (dT (by rw [List.length_map]; omega)) (El.an ⟨om,by rw [List.length_map]; omega⟩ (El.an (by rw [hnd]; rfl) ?_))
   rw [hnd]
   refine El.bind (Ev.of (KN hpl)).el (El.an ⟨by rw [List.length_singleton]; omega,by rw [List.length_singleton]; omega⟩ ?_)
   rw [kH (show x≤1000000 by omega)]
   have:=ih (x+1) om om (out++[nd.fe]) (by rw [List.length_append,List.length_singleton]; omega)
   rw [List.drop_eq_getElem_cons hx2,List.map_cons,← hfe]
   rw [List.append_assoc] at this
   exact this
 unfold dag_Dag_All.f
 refine Ev.bind (Ev.bind (Ev.of hid) (loop _ hSl hS _ 0 rfl om [] rfl).diag) (Ev.of ?_)
 rw [List.drop_zero]; rfl
def oC (acc:List (BA×Int)) (e:Event):List (BA×Int):=if e.bR=1 then mput acc e.aj 1 else if e.bR=2 then l7 acc e.aj else acc
def jm (A:List Event):List (BA×Int):=A.foldl oC []
def iw (u:BA) (e:Event):Bool:=decide (e.aj=u) && !decide (e.bR=0)
def nT (u:BA) (A:List Event) (r:Option Event):Option Event:=A.foldl (fun r e=>if iw u e=true then some e else r) r
def oj:Option Event→Option Int
 | some e=>if e.bR=1 then some 1 else none
 | none=>none
theorem Kj:∀ (A:List Event),(∀ e∈A,e.bR=0∨e.bR=1∨e.bR=2)→∀ (acc:List (BA×Int)) (r:BA→Option Event),Nd acc→(∀ u,mget acc u=oj (r u))→Nd (A.foldl oC acc)∧∀ u,mget (A.foldl oC acc) u=oj (nT u A (r u))
 | [],_,acc,r,h1,h2=>⟨h1,h2⟩
 | e::A,hd,acc,r,h1,h2=>by
  show Nd (A.foldl oC (oC acc e))∧∀ u,mget (A.foldl oC (oC acc e)) u=oj (nT u A (if iw u e=true then some e else r u))
  refine Kj A (fun x hx=>hd x (List.mem_cons_of_mem _ hx)) (oC acc e) (fun u=>if iw u e=true then some e else r u) ?_ fun u=>?_
  ·unfold oC
   split
   ·exact tG h1
   ·split
    ·exact (List.Sublist.map _ uS).nodup h1
    ·exact h1
  ·unfold oC iw
   rcases hd e (List.mem_cons_self ..) with h | h | h
   ·rw [if_neg om,if_neg om,h2]; simp [h]
   ·rw [if_pos h,fX,h2]
    by_cases hu:e.aj=u
    ·simp [hu,h,oj]
    ·simp [hu]
   ·rw [if_neg om,if_pos h,oP h1,h2]
    by_cases hu:e.aj=u
    ·simp [hu,h,oj]
    ·simp [hu]
theorem Ab {A:List Event} (hl:A.length≤1000):∀ n x:Nat,A.length-x=n→x≤A.length→∀ acc,
  ∃ r:Int×Int×Bool×List (BA×Int)×List Event,El (fun k j=>member_joined.l0 k A j (x:Int) acc) r∧r.2.2.2.1=(A.drop x).foldl oC acc:=by
 intro n
 induction n with
 | zero=>
  intro x hd hx acc
  obtain rfl:x=A.length:=om
  refine ⟨((A.length:Int),(A.length:Int),false,acc,A),?_,by rw [List.drop_length]; rfl⟩
  refine El.step (fun _ _=>by rw [member_joined.l0]) ?_
  exact El.cf sM (by simpa using El.pure)
 | succ n ih=>
  intro x hd hx acc
  have hx2:x<A.length:=om
  have hat:A.getD x default=ev A x:=rfl
  have hdr:A.drop x=ev A x::A.drop (x+1):=by rw [List.drop_eq_getElem_cons hx2]; unfold ev; rw [gD,gE hx2]; rfl
  obtain ⟨r,r1,r2⟩:=ih (x+1) om om (oC acc (ev A x))
  refine ⟨r,?_,by rw [hdr]; exact r2⟩
  refine El.step (fun _ _=>by rw [member_joined.l0]) ?_
  rw [Int.toNat_natCast,hat,kH (show x≤1000000 by omega)]
  refine El.ct (dT om) (El.an ⟨om,om⟩ ?_)
  unfold oC at r1
  by_cases h1:(ev A x).bR=1
  ·rw [if_pos h1] at r1
   exact El.ct (by simp [h1]) r1
  ·rw [if_neg h1] at r1
   refine El.cf (by simp [h1]) ?_
   by_cases h2:(ev A x).bR=2
   ·rw [if_pos h2] at r1
    exact El.ct (by simp [h2]) r1
   ·rw [if_neg h2] at r1
    exact El.cf (by simp [h2]) r1
theorem ES {m:bp} {t:oO} (hr:RT m t):Ev (fun k=>member_joined.f k m) (jm (mU t)):=by
 have hl:(mU t).length≤1000:=by unfold mU; rw [List.length_map,(qn _).length_eq]; unfold PL; rw [List.length_map]; exact hr.len
 obtain ⟨r,r1,r2⟩:=Ab hl _ 0 rfl om []
 unfold member_joined.f
 refine Ev.bind (Ev.bind (KW hr) r1.diag) (Ev.of ?_)
 rw [r2]; rfl
def Mx (t:oO) (L:List Event) (u:BA):Option Event→Prop
 | none=>∀ e∈L,iw u e=false
 | some e=>e∈L∧iw u e=true∧∀ e'∈L,iw u e'=true→e'=e∨lt t e' e
theorem Dp {t:oO} {L:List Event} {u:BA}:∀ {o o':Option Event},Mx t L u o→Mx t L u o'→o=o'
 | none,none,_,_=>rfl
 | none,some e,h,h'=>by have:=h e h'.1; rw [h'.2.1] at this; cases this
 | some e,none,h,h'=>by have:=h' e h.1; rw [h.2.1] at this; cases this
 | some e,some e',h,h'=>by
  rcases h.2.2 e' h'.1 h'.2.1 with k | k
  ·rw [k]
  ·rcases h'.2.2 e h.1 h.2.1 with q | q
   ·rw [q]
   ·exact (La (JR k q)).elim
theorem CB {t:oO} {u:BA}:∀ (A:List Event),A.Pairwise (lt t)→∀ r:Option Event,match nT u A r with
  | none=>r=none∧∀ e∈A,iw u e=false
  | some e=>(r=some e∧∀ e'∈A,iw u e'=false)∨(e∈A∧iw u e=true∧∀ e'∈A,iw u e'=true→e'=e∨lt t e' e)
 | [],_,none=>⟨rfl,fun _ h=>by cases h⟩
 | [],_,some e=>.inl ⟨rfl,fun _ h=>by cases h⟩
 | x::A,h,r=>by
  rw [List.pairwise_cons] at h
  have ih:=CB (u:=u) A h.2 (if iw u x=true then some x else r)
  show match nT u A (if iw u x=true then some x else r) with
   | none=>r=none∧∀ e∈x::A,iw u e=false
   | some e=>(r=some e∧∀ e'∈x::A,iw u e'=false)∨(e∈x::A∧iw u e=true∧∀ e'∈x::A,iw u e'=true→e'=e∨lt t e' e)
  cases hq:nT u A (if iw u x=true then some x else r) with
  | none=>
   rw [hq] at ih
   cases hx:iw u x with
   | true=>rw [hx] at ih; cases ih.1
   | false=>
    rw [hx] at ih
    exact ⟨ih.1,fun e he=>(List.mem_cons.1 he).elim (fun k=>by rw [k]; exact hx) (ih.2 e)⟩
  | some e=>
   rw [hq] at ih
   rcases ih with ⟨h1,h2⟩ | ⟨h1,h2,h3⟩
   ·cases hx:iw u x with
    | true=>
     rw [hx] at h1
     cases h1
     refine .inr ⟨List.mem_cons_self ..,hx,fun e' he hr=>?_⟩
     rcases List.mem_cons.1 he with k | k
     ·exact .inl k
     ·have:=h2 e' k; rw [hr] at this; cases this
    | false=>
     rw [hx] at h1
     exact .inl ⟨h1,fun e' he=>(List.mem_cons.1 he).elim (fun k=>by rw [k]; exact hx) (h2 e')⟩
   ·refine .inr ⟨List.mem_cons_of_mem _ h1,h2,fun e' he hr=>?_⟩
    rcases List.mem_cons.1 he with k | k
    ·rw [k]; exact .inr (h.1 e h1)
    ·exact h3 e' k hr
theorem GG {L:List Event} (hg:Good L) (u:BA):Mx (tb L) L u (nT u (mU (tb L)) none):=by
 have h:=CB (u:=u) (mU (tb L)) (Iy hg) none
 have hm:∀ e,e∈mU (tb L)↔e∈L:=fun e=>(Ac hg).mem_iff
 cases hq:nT u (mU (tb L)) none with
 | none=>rw [hq] at h; exact fun e he=>h.2 e ((hm e).2 he)
 | some e=>
  rw [hq] at h
  rcases h with ⟨h,_⟩ | ⟨h1,h2,h3⟩
  ·cases h
  ·exact ⟨(hm e).1 h1,h2,fun e' he=>h3 e' ((hm e').2 he)⟩
structure Cz (m:bp) (d:aK):Prop where
 rel:Rel m d
 Js:T m=tb d.fL
 uV:Good d.fL
 par:∀ e∈d.fL,e.ag.length≤4
 lE:∀ e∈d.fL,e.bR=0∨e.bR=1∨e.bR=2
 usr:∀ e∈d.fL,e.aj.size≤maxLen
 flg:∀ x∈m.ao,x.2.kM=ud d.fL x.1
theorem Hd (room:BA):Cz ⟨room,[]⟩ ⟨room,[]⟩:=⟨sB room,rfl,⟨List.nodup_nil,fun i hi=>by simp at hi⟩,fun e he=>(by cases he),fun e he=>(by cases he),fun e he=>(by cases he),fun x hx=>(by cases hx)⟩
theorem AM {κ α:Type} [DecidableEq κ] {k:κ} {a:α}:∀ {m:List (κ×α)},(m.map (·.1)).Nodup→∀ x,x∈mput m k a→x=(k,a)∨(x∈m∧x.1≠k)
 | [],_,x,h=>by simp [mput] at h; exact .inl h
 | e::m,hn,x,h=>by
  rw [List.map_cons,List.nodup_cons] at hn
  simp only [mput] at h
  split at h
  ·rename_i hk
   rcases List.mem_cons.1 h with h | h
   ·exact .inl h
   ·refine .inr ⟨List.mem_cons_of_mem _ h,fun e2=>hn.1 ?_⟩
    rw [hk,← e2]; exact List.mem_map.2 ⟨x,h,rfl⟩
  ·rename_i hk
   rcases List.mem_cons.1 h with h | h
   ·exact .inr ⟨by rw [h]; exact List.mem_cons_self ..,by rw [h]; exact hk⟩
   ·rcases AM hn.2 x h with h2 | ⟨h2,h3⟩
    ·exact .inl h2
    ·exact .inr ⟨List.mem_cons_of_mem _ h2,h3⟩
theorem markF {e:Event} (he:Event.ok e):∀ n x,e.ag.length-x=n→x≤e.ag.length→∀ (dep:Int) (m:bp),(∀ i,i<e.ag.length→(mget m.ao (par e i)).isSome=true)→(m.ao.map (·.1)).Nodup→
  ∃ r:Int×Bool×Int×bp,El (fun k j=>dag_Dag_Add.l0 k e j (x:Int) dep m) r∧∀ y∈r.2.2.2.ao,∃ z∈m.ao,y.1=z.1∧y.2.kM=(z.2.kM||E6 (e.ag.drop x) z.1):=by
 have hn:e.ag.length≤9223372036854775807:=he.2.2.1.1
 intro n
 induction n with
 | zero=>
  intro x hd hx dep m hm hnd
  obtain rfl:x=e.ag.length:=om
  refine ⟨((e.ag.length:Int),false,dep,m),?_,fun y hy=>⟨y,hy,rfl,by rw [List.drop_length]; simp [E6]⟩⟩
  refine El.step (fun _ _=>by rw [dag_Dag_Add.l0]) ?_
  exact El.cf sM (by simpa using El.pure)
 | succ n ih=>
  intro x hd hx dep m hm hnd
  have hx2:x<e.ag.length:=om
  obtain ⟨nd,hnd2⟩:=Option.isSome_iff_exists.1 (hm x hx2)
  have hg:(mget m.ao (par e x)).getD default=nd:=by rw [hnd2]; rfl
  have hdr:e.ag.drop x=par e x::e.ag.drop (x+1):=by
   rw [List.drop_eq_getElem_cons hx2]; unfold par; rw [gD,gE hx2]; rfl
  obtain ⟨r,h1,h2⟩:=ih (x+1) om om (max dep (av (nd.cK+1))) (⟨m.cQ,mput m.ao (par e x) (⟨nd.fe,nd.cK,true⟩:aY)⟩:bp) (fun i hi=>by
   have h4:=hm i hi
   show (mget (mput m.ao (par e x) (⟨nd.fe,nd.cK,true⟩:aY)) (par e i)).isSome=true
   rw [fX]
   split
   ·rfl
   ·exact h4) (by
   have:=vA (fun x:BA×aY=>x.1) (a':=(⟨nd.fe,nd.cK,true⟩:aY)) hnd2 rfl
   show ((mput m.ao (par e x) (⟨nd.fe,nd.cK,true⟩:aY)).map (·.1)).Nodup
   rw [this]; exact hnd)
  refine ⟨r,?_,fun y hy=>?_⟩
  ·refine El.step (fun _ _=>by rw [dag_Dag_Add.l0]) ?_
   refine El.ct (by simpa using hx2) (El.an ⟨om,om⟩ ?_)
   rw [lX hx2,hg]
   refine El.an (hm x hx2) ?_
   rw [aE (x:=(x:Int)+1) om om]
   exact h1
  ·obtain ⟨z,hz,e1,e2⟩:=h2 y hy
   rw [hdr]
   rcases AM hnd z hz with rfl | ⟨hz2,hz3⟩
   ·refine ⟨(par e x,nd),sJ hnd2,e1,?_⟩
    rw [e2]; simp [E6]
   ·refine ⟨z,hz2,e1,?_⟩
    rw [e2]
    have:¬ par e x=z.1:=fun h=>hz3 h.symm
    simp [E6,this]
theorem GS {d:aK} {e:Event} (h:code d e=0):pO e=true∧ix d.fL e.bV<0∧ie (fun i=>decide (0≤ix d.fL (Go.Proofs.YtfknmdelgepbjaaGreatDoor.par e i))) 0 e.ag.length=true:=by
 unfold code at h
 split at h
 ·cases h
 ·rename_i c1
  split at h
  ·cases h
  ·split at h
   ·cases h
   ·rename_i c3
    split at h
    ·cases h
    ·rename_i c4
     refine ⟨by simpa using c1,Int.not_le.1 c3,?_⟩
     cases hh:ie (fun i=>decide (0≤ix d.fL (Go.Proofs.YtfknmdelgepbjaaGreatDoor.par e i))) 0 e.ag.length with
     | true=>rfl
     | false=>exact absurd hh c4
theorem C1 {e:Event} {p:BA} (h:p∈e.ag):∃ i,i<e.ag.length∧par e i=p:=by
 obtain ⟨i,hi,rfl⟩:=List.mem_iff_getElem.1 h
 exact ⟨i,hi,by unfold par; rw [gD,gE hi]; rfl⟩
theorem FJ {d:aK} {e:Event} (hg:Good d.fL) (hc:code d e=0):Good (d.fL++[e]):=by
 obtain ⟨_,h1,h2⟩:=GS hc
 refine ⟨?_,fun i hi p hp=>?_⟩
 ·rw [List.map_append,List.nodup_append]
  refine ⟨hg.uq,List.nodup_cons.2 ⟨sM,List.nodup_nil⟩,fun a ha b hb=>?_⟩
  obtain ⟨x,hx,rfl⟩:=List.mem_map.1 ha
  simp at hb
  rw [hb]
  intro he
  obtain ⟨j,hj,rfl⟩:=tH hx
  rcases mZ d.fL e.bV with ⟨_,k⟩ | ⟨q,k,_⟩
  ·exact k j hj he
  ·omega
 ·rw [List.length_append,List.length_singleton] at hi
  rcases Nat.lt_or_ge i d.fL.length with k | k
  ·rw [nI k] at hp
   obtain ⟨j,hj,he⟩:=hg.cl i k p hp
   exact ⟨j,hj,by rw [nI om]; exact he⟩
  ·obtain rfl:i=d.fL.length:=om
   rw [rE] at hp
   obtain ⟨q,hq,rfl⟩:=C1 hp
   have:=kG.1 h2 q om hq
   rcases mZ d.fL (par e q) with ⟨k1,_⟩ | ⟨j,k1,hj,he⟩
   ·simp [k1] at this
   ·exact ⟨j,hj,by rw [nI hj]; exact he⟩
theorem JE {m:bp} {d:aK} {e:Event} (hr:Cz m d) (he:Event.ok e) (hl:d.fL.length≤100000):∃ m',Ev (fun k=>dag_Dag_Add.f k m e) (code d e,m')∧(code d e≠0→m'=m)∧(code d e=0→Cz m' ⟨d.ab,d.fL++[e]⟩):=by
 obtain ⟨m',h1,h2,h3⟩:=H5 hr.rel he (Li hr.Js hl)
 refine ⟨m',h1,h2,fun hc=>?_⟩
 obtain ⟨a1,a2,r,a3,a4⟩:=h3 hc
 obtain ⟨c1,c2,c3⟩:=GS hc
 have hg:=FJ hr.uV hc
 have hall:∀ i,i<e.ag.length→(mget m.ao (par e i)).isSome=true:=fun i hi=>by
  have h1:=kG.1 c3 i om hi
  rcases tO hr.rel (par e i) with ⟨q,_⟩ | ⟨j,q,_,_,nd,h,_⟩
  ·simp [q] at h1
  ·rw [h]; rfl
 have hkeys:m.ao.map (·.1)=d.fL.map (·.bV):=by
  rw [← yA,← hr.Js]; unfold T; rw [List.map_map]; rfl
 have hnd:(m.ao.map (·.1)).Nodup:=by rw [hkeys]; exact hr.uV.uq
 obtain ⟨r',b1,b2⟩:=markF he _ 0 rfl om 0 m hall hnd
 have hrr:r'=r:=Ev.uniq b1.diag a3.diag
 subst hrr
 have cm:=c1
 unfold pO at cm
 simp at cm
 have hself:e.bV ∉ e.ag:=fun hp=>by
  obtain ⟨q,hq,hq2⟩:=C1 hp
  have:=kG.1 cm.2.2.2.2.2.2.2 q om hq
  unfold sV at this
  simp [hq2] at this
 refine ⟨a1,by rw [a2,hr.Js,rA],hg,fun x hx=>?_,fun x hx=>?_,fun x hx=>?_,fun x hx=>?_⟩
 ·rcases List.mem_append.1 hx with k | k
  ·exact hr.par x k
  ·rw [List.mem_singleton.1 k]; exact cm.2.2.2.1
 ·rcases List.mem_append.1 hx with k | k
  ·exact hr.lE x k
  ·rw [List.mem_singleton.1 k]; have:=cm.2.2.2.2.1; have:=cm.2.2.2.2.2.1; omega
 ·rcases List.mem_append.1 hx with k | k
  ·exact hr.usr x k
  ·rw [List.mem_singleton.1 k]; exact he.2.2.2.2.1
 ·rw [a4] at hx
  have hnew:mget r'.2.2.2.ao e.bV=none:=by
   cases hh:mget r'.2.2.2.ao e.bV with
   | none=>rfl
   | some v=>
    obtain ⟨z,hz,e1,_⟩:=b2 _ (sJ hh)
    have:e.bV∈m.ao.map (·.1):=by rw [show e.bV=z.1 from e1]; exact List.mem_map.2 ⟨z,hz,rfl⟩
    rw [hkeys] at this
    obtain ⟨x2,hx2,hx3⟩:=List.mem_map.1 this
    obtain ⟨j,hj,rfl⟩:=tH hx2
    rcases mZ d.fL e.bV with ⟨_,k⟩ | ⟨q,k,_⟩
    ·exact absurd hx3 (k j hj)
    ·omega
  rw [uO hnew] at hx
  have happ:∀ id,ud (d.fL++[e]) id=(ud d.fL id||E6 e.ag id):=fun id=>by unfold ud; rw [List.any_append]; simp
  show x.2.kM=ud (d.fL++[e]) x.1
  rcases List.mem_append.1 hx with k | k
  ·obtain ⟨z,hz,e1,e2⟩:=b2 x k
   rw [e2,e1,happ,hr.flg z hz,List.drop_zero]
  ·rw [List.mem_singleton.1 k,happ]
   show false=(ud d.fL e.bV||E6 e.ag e.bV)
   rw [Lp hself]
   cases hp:ud d.fL e.bV with
   | false=>rfl
   | true=>
    exfalso
    unfold ud at hp
    obtain ⟨y,hy,hy2⟩:=List.any_eq_true.1 hp
    obtain ⟨i,hi,rfl⟩:=tH hy
    obtain ⟨j,hj,hje⟩:=hr.uV.cl i hi _ (CN.1 hy2)
    rcases mZ d.fL e.bV with ⟨_,k⟩ | ⟨q,k,_⟩
    ·exact k j om hje
    ·omega
def lH (w:bA) (room:BA):aK:=(w.fD.find? fun d=>decide (d.ab=room)).getD ⟨room,[]⟩
theorem A7 (w:bA) (room:BA):(lH w room).ab=room:=by
 unfold lH
 cases h:w.fD.find? fun d=>decide (d.ab=room) with
 | none=>rfl
 | some d=>simpa using List.find?_some h
theorem uf {w:bA} {room:BA} (hl:w.fD.length≤100000):Ev (fun k=>iz.f k w room) (lH w room):=by
 unfold iz.f
 have key:∀ n x:Nat,w.fD.length-x=n→x≤w.fD.length→∃ r:(Int×Bool) ⊕ aK,El (fun k j=>iz.l0 k w room j (x:Int)) r∧fall (fun (p555:Int×Bool)=>some (⟨room,([]:List Event)⟩:aK)) r=some (((w.fD.drop x).find? fun d=>decide (d.ab=room)).getD ⟨room,[]⟩):=by
  intro n
  induction n with
  | zero=>
   intro x hd hx
   obtain rfl:x=w.fD.length:=om
   refine ⟨.inl ((w.fD.length:Int),false),?_,by simp [fall]⟩
   refine El.step (fun _ _=>by rw [iz.l0]) ?_
   exact El.cf sM (by simpa using El.pure)
  | succ n ih=>
   intro x hd hx
   have hx2:x<w.fD.length:=om
   have e1:aK.K.at w.fD (x:Int)=w.fD[x]:=by rw [ET _ _ default hx2,gD,gE hx2]; rfl
   rw [List.drop_eq_getElem_cons hx2,List.find?_cons]
   cases hq:decide (w.fD[x].ab=room) with
   | true=>
    refine ⟨.inr w.fD[x],?_,rfl⟩
    refine El.step (fun _ _=>by rw [iz.l0]) ?_
    rw [e1]
    exact El.ct (by simpa using hx2) (El.an ⟨om,om⟩ (El.ct hq (El.an ⟨om,om⟩ El.pure)))
   | false=>
    obtain ⟨r,h1,h2⟩:=ih (x+1) om om
    refine ⟨r,?_,h2⟩
    refine El.step (fun _ _=>by rw [iz.l0]) ?_
    rw [e1,aE (x:=(x:Int)+1) om om]
    exact El.ct (by simpa using hx2) (El.an ⟨om,om⟩ (El.cf hq h1))
 obtain ⟨r,h1,h2⟩:=key _ 0 rfl om
 exact Ev.bind h1.diag (Ev.of h2)
structure xw (v:aJ) (w:bA):Prop where
 LS:∀ d∈w.fD,∃ m,mget v.bC d.ab=some m∧Cz m d
 LK:∀ room,(∀ d∈w.fD,d.ab≠room)→mget v.bC room=none
 nd:(w.fD.map (·.ab)).Nodup
 ndv:Nd v.bC
 ri:sY (w.fD.map (·.ab))
 ne:∀ d∈w.fD,d.fL≠[]
theorem GC:xw ⟨[]⟩ ⟨[]⟩:=⟨fun d h=>(by cases h),fun _ _=>rfl,List.nodup_nil,zi,List.Pairwise.nil,fun d h=>(by cases h)⟩
theorem pA {v:aJ} {w:bA} (hr:xw v w) (room:BA):∃ m,aP.f v room=some m∧Cz m (lH w room)∧(∀ x,mget v.bC room=some x→x=m):=by
 unfold aP.f lH
 cases h:w.fD.find? fun d=>decide (d.ab=room) with
 | none=>
  have h1:mget v.bC room=none:=hr.LK room fun d hd=>by simpa using List.find?_eq_none.1 h d hd
  rw [h1]
  exact ⟨_,rfl,Hd room,fun x hx=>by cases hx⟩
 | some d=>
  obtain ⟨m,h1,h2⟩:=hr.LS d (List.mem_of_find?_eq_some h)
  have h3:d.ab=room:=by simpa using List.find?_some h
  rw [h3] at h1
  rw [h1]
  exact ⟨m,rfl,h2,fun x hx=>(Option.some.inj hx).symm⟩
theorem Hc {w:bA} {e:Event} {t:aK×Int} (hl:w.fD.length≤100000):∀ n x:Nat,w.fD.length-x=n→x≤w.fD.length→∀ (dn:Bool) (out:List aK),out.length≤2*x→
  ∃ r:Bool×Int×Bool×List aK,El (fun k j=>eB.l0 k w e t j dn (x:Int) out) r∧(dn=true→r.1=true)∧r.2.2.2.length≤2*w.fD.length∧
   r.2.2.2.Perm ((if dn=false∧r.1=true then [t.1] else [])++(out++(w.fD.drop x).filter fun d=>!decide (d.ab=e.ab))):=by
 intro n
 induction n with
 | zero=>
  intro x hd hx dn out ho
  obtain rfl:x=w.fD.length:=om
  refine ⟨(dn,(w.fD.length:Int),false,out),?_,fun h=>h,ho,?_⟩
  ·refine El.step (fun _ _=>by rw [eB.l0]) ?_
   exact El.cf sM (by simpa using El.pure)
  ·cases dn <;> simp
 | succ n ih=>
  intro x hd hx dn out ho
  have hx2:x<w.fD.length:=om
  have e1:aK.K.at w.fD (x:Int)=w.fD[x]:=by rw [ET _ _ default hx2,gD,gE hx2]; rfl
  obtain ⟨pt,hpt⟩:∃ pt:Bool,pt=(!dn && !dJ (w.fD[x].ab) e.ab):=⟨_,rfl⟩
  obtain ⟨b,hb⟩:∃ b:Bool,El (fun (k j:Nat)=>cond (!dn) (an ((0:Int)≤(x:Int)∧(x:Int)<(w.fD.length:Int)) (cond (!dJ (w.fD[x].ab) e.ab) (an (out.length+([t.1]:List aK).length≤9223372036854775807∧(out.length+([t.1]:List aK).length)*40≤140737488355328) (some (true,!dJ (w.fD[x].ab) e.ab,out++([t.1]:List aK)))) (some (dn,!dJ (w.fD[x].ab) e.ab,out)))) (some (dn,false,out))) (dn||pt,b,if pt then out++[t.1] else out):=by
   cases dn with
   | true=>exact ⟨false,by rw [hpt]; exact El.cf rfl El.pure⟩
   | false=>
    cases hs:dJ (w.fD[x].ab) e.ab with
    | true=>exact ⟨false,by rw [hpt,hs]; exact El.ct rfl (El.an ⟨om,om⟩ (El.cf rfl El.pure))⟩
    | false=>exact ⟨true,by rw [hpt,hs]; exact El.ct rfl (El.an ⟨om,om⟩ (El.ct rfl (El.an ⟨by simp; omega,by simp; omega⟩ El.pure)))⟩
  have hol:(if pt then out++[t.1] else out).length≤2*x+1:=by cases pt <;> simp <;> omega
  have hstep:∀ {r},El (fun k j=>cond (!decide ((w.fD[x].ab)=e.ab)) (an ((0:Int)≤(x:Int)∧(x:Int)<(w.fD.length:Int)) (an ((if pt then out++[t.1] else out).length+([w.fD[x]]:List aK).length≤9223372036854775807∧((if pt then out++[t.1] else out).length+([w.fD[x]]:List aK).length)*40≤140737488355328) (eB.l0 k w e t j (dn||pt) (av ((x:Int)+1)) ((if pt then out++[t.1] else out)++([w.fD[x]]:List aK))))) (eB.l0 k w e t j (dn||pt) (av ((x:Int)+1)) (if pt then out++[t.1] else out))) r→El (fun k j=>eB.l0 k w e t j dn (x:Int) out) r:=fun h=>by
   refine El.step (fun _ _=>by rw [eB.l0]) ?_
   rw [e1]
   exact El.ct (by simpa using hx2) (El.bind hb (El.an ⟨om,om⟩ h))
  have hperm:∀ {r:Bool} {X:List aK} {tl:List aK},(dn=true→(dn||pt)=true)→((dn||pt)=true→r=true)→X.Perm ((if (dn||pt)=false∧r=true then [t.1] else [])++((if pt then out++[t.1] else out)++tl))→X.Perm ((if dn=false∧r=true then [t.1] else [])++(out++tl)):=fun {r X tl} _ hmono hX=>by
   cases dn with
   | true=>
        have:pt=false:=by rw [hpt]; rfl
        subst this; simpa using hX
   | false=>
    cases pt with
    | false=>simpa using hX
    | true=>
     have:r=true:=hmono rfl
     subst this
     simp only [Bool.or_true,Bool.true_eq_false,false_and,if_false,if_true,List.nil_append,and_self,List.singleton_append] at hX ⊢
     refine hX.trans ?_
     rw [List.append_assoc]
     exact List.perm_middle
  rw [List.drop_eq_getElem_cons hx2,List.filter_cons]
  cases hq:decide (w.fD[x].ab=e.ab) with
  | true=>
   obtain ⟨r,h1,h2,h3,h4⟩:=ih (x+1) om om (dn||pt) (if pt then out++[t.1] else out) om
   refine ⟨r,hstep (El.cf (by rw [hq]; rfl) ?_),fun h=>h2 (by rw [h]; rfl),h3,?_⟩
   ·rw [aE (x:=(x:Int)+1) om om]; exact h1
   ·simpa using hperm (fun h=>by rw [h]; rfl) h2 h4
  | false=>
   obtain ⟨r,h1,h2,h3,h4⟩:=ih (x+1) om om (dn||pt) ((if pt then out++[t.1] else out)++[w.fD[x]]) (by rw [List.length_append]; simp; omega)
   refine ⟨r,hstep (El.ct (by rw [hq]; rfl) (El.an ⟨om,om⟩ (El.an ⟨by simp only [List.length_singleton]; omega,by simp only [List.length_singleton]; omega⟩ ?_))),fun h=>h2 (by rw [h]; rfl),h3,?_⟩
   ·rw [aE (x:=(x:Int)+1) om om]; exact h1
   ·have:=hperm (X:=r.2.2.2) (r:=r.1) (tl:=w.fD[x]::(w.fD.drop (x+1)).filter fun d=>!decide (d.ab=e.ab)) (fun h=>by rw [h]; rfl) h2 (by rw [List.append_assoc] at h4; simpa using h4)
    simpa using this
theorem Jm {w:bA} {e:Event} {t:aK×Int} (ht:t.1.ab=e.ab) (hl:w.fD.length≤100000):∀ n x:Nat,w.fD.length-x=n→x≤w.fD.length→∀ (dn:Bool) (out:List aK),out.length≤2*x→
  ∃ r:Bool×Int×Bool×List aK,El (fun k j=>eB.l0 k w e t j dn (x:Int) out) r∧(if r.1=true then r.2.2.2 else r.2.2.2++[t.1]).map (·.ab)=out.map (·.ab)++putG e.ab dn ((w.fD.drop x).map (·.ab)):=by
 intro n
 induction n with
 | zero=>
  intro x hd hx dn out ho
  obtain rfl:x=w.fD.length:=om
  refine ⟨(dn,(w.fD.length:Int),false,out),?_,?_⟩
  ·refine El.step (fun _ _=>by rw [eB.l0]) ?_
   exact El.cf sM (by simpa using El.pure)
  ·rw [List.drop_length]
   cases dn <;> simp [putG,ht]
 | succ n ih=>
  intro x hd hx dn out ho
  have hx2:x<w.fD.length:=om
  have e1:aK.K.at w.fD (x:Int)=w.fD[x]:=by rw [ET _ _ default hx2,gD,gE hx2]; rfl
  obtain ⟨pt,hpt⟩:∃ pt:Bool,pt=(!dn && !dJ (w.fD[x].ab) e.ab):=⟨_,rfl⟩
  obtain ⟨b,hb⟩:∃ b:Bool,El (fun (k j:Nat)=>cond (!dn) (an ((0:Int)≤(x:Int)∧(x:Int)<(w.fD.length:Int)) (cond (!dJ (w.fD[x].ab) e.ab) (an (out.length+([t.1]:List aK).length≤9223372036854775807∧(out.length+([t.1]:List aK).length)*40≤140737488355328) (some (true,!dJ (w.fD[x].ab) e.ab,out++([t.1]:List aK)))) (some (dn,!dJ (w.fD[x].ab) e.ab,out)))) (some (dn,false,out))) (dn||pt,b,if pt then out++[t.1] else out):=by
   cases dn with
   | true=>exact ⟨false,by rw [hpt]; exact El.cf rfl El.pure⟩
   | false=>
    cases hs:dJ (w.fD[x].ab) e.ab with
    | true=>exact ⟨false,by rw [hpt,hs]; exact El.ct rfl (El.an ⟨om,om⟩ (El.cf rfl El.pure))⟩
    | false=>exact ⟨true,by rw [hpt,hs]; exact El.ct rfl (El.an ⟨om,om⟩ (El.ct rfl (El.an ⟨by simp; omega,by simp; omega⟩ El.pure)))⟩
  have hol:(if pt then out++[t.1] else out).length≤2*x+1:=by cases pt <;> simp <;> omega
  have hstep:∀ {r},El (fun k j=>cond (!decide ((w.fD[x].ab)=e.ab)) (an ((0:Int)≤(x:Int)∧(x:Int)<(w.fD.length:Int)) (an ((if pt then out++[t.1] else out).length+([w.fD[x]]:List aK).length≤9223372036854775807∧((if pt then out++[t.1] else out).length+([w.fD[x]]:List aK).length)*40≤140737488355328) (eB.l0 k w e t j (dn||pt) (av ((x:Int)+1)) ((if pt then out++[t.1] else out)++([w.fD[x]]:List aK))))) (eB.l0 k w e t j (dn||pt) (av ((x:Int)+1)) (if pt then out++[t.1] else out))) r→El (fun k j=>eB.l0 k w e t j dn (x:Int) out) r:=fun h=>by
   refine El.step (fun _ _=>by rw [eB.l0]) ?_
   rw [e1]
   exact El.ct (by simpa using hx2) (El.bind hb (El.an ⟨om,om⟩ h))
  have hdn:(dn||pt)=(dn || !dJ (w.fD[x].ab) e.ab):=by rw [hpt]; cases dn <;> rfl
  have hout:(if pt then out++[t.1] else out).map (·.ab)=out.map (·.ab)++(if (!dn && !dJ (w.fD[x].ab) e.ab) then [e.ab] else []):=by
   rw [← hpt]; cases pt <;> simp [ht]
  rw [List.drop_eq_getElem_cons hx2,List.map_cons]
  cases hq:decide (w.fD[x].ab=e.ab) with
  | true=>
   obtain ⟨r,h1,h2⟩:=ih (x+1) om om (dn||pt) (if pt then out++[t.1] else out) om
   refine ⟨r,hstep (El.cf (by rw [hq]; rfl) ?_),?_⟩
   ·rw [aE (x:=(x:Int)+1) om om]; exact h1
   ·rw [h2,hout,hdn,List.append_assoc]
    congr 1
    simp only [putG,if_pos (of_decide_eq_true hq),List.nil_append]
  | false=>
   obtain ⟨r,h1,h2⟩:=ih (x+1) om om (dn||pt) ((if pt then out++[t.1] else out)++[w.fD[x]]) (by rw [List.length_append]; simp; omega)
   refine ⟨r,hstep (El.ct (by rw [hq]; rfl) (El.an ⟨om,om⟩ (El.an ⟨by simp only [List.length_singleton]; omega,by simp only [List.length_singleton]; omega⟩ ?_))),?_⟩
   ·rw [aE (x:=(x:Int)+1) om om]; exact h1
   ·rw [h2,List.map_append,hout,hdn,List.append_assoc,List.append_assoc]
    congr 1
    simp only [putG,if_neg (of_decide_eq_false hq),List.map_cons,List.map_nil]
theorem IA {w:bA} {e:Event} (he:Event.ok e) (hl:w.fD.length≤100000) (hd:(lH w e.ab).fL.length≤100000):
  ∃ w',Ev (fun k=>eB.f k w e) (w',code (lH w e.ab) e)∧(code (lH w e.ab) e≠0→w'=w)∧
   (code (lH w e.ab) e=0→w'.fD.Perm (⟨e.ab,(lH w e.ab).fL++[e]⟩::w.fD.filter fun d=>!decide (d.ab=e.ab))∧w'.fD.map (·.ab)=putG e.ab false (w.fD.map (·.ab))):=by
 unfold eB.f
 by_cases hc:code (lH w e.ab) e=0
 ·have h1:=BM he hd
  rw [if_pos hc,A7] at h1
  obtain ⟨r,l1,l2,l3,l4⟩:=Hc (w:=w) (e:=e) (t:=((⟨e.ab,(lH w e.ab).fL++[e]⟩:aK),0)) hl _ 0 rfl om false [] sM
  obtain ⟨r',l1',l5⟩:=Jm (w:=w) (e:=e) (t:=((⟨e.ab,(lH w e.ab).fL++[e]⟩:aK),0)) rfl hl _ 0 rfl om false [] sM
  have hrr:r'=r:=Ev.uniq l1'.diag l1.diag
  subst hrr
  rw [List.drop_zero,List.map_nil,List.nil_append] at l5
  rw [hc]
  cases hr:r'.1 with
  | false=>
   refine ⟨⟨r'.2.2.2++[(⟨e.ab,(lH w e.ab).fL++[e]⟩:aK)]⟩,Ev.bind (uf hl) (Ev.bind h1 (Ev.cf rfl (Ev.bind l1.diag (Ev.ct (by rw [hr]; rfl) (Ev.an ⟨by simp; omega,by simp; omega⟩ Ev.pure))))),fun h=>absurd rfl h,fun _=>?_⟩
   rw [hr] at l4 l5
   simp at l4
   exact ⟨(List.perm_append_comm).trans (l4.cons _),l5⟩
  | true=>
   refine ⟨⟨r'.2.2.2⟩,Ev.bind (uf hl) (Ev.bind h1 (Ev.cf rfl (Ev.bind l1.diag (Ev.cf (by rw [hr]; rfl) Ev.pure)))),fun h=>absurd rfl h,fun _=>?_⟩
   rw [hr] at l4 l5
   exact ⟨by simpa using l4,l5⟩
 ·have h1:=BM he hd
  rw [if_neg hc] at h1
  exact ⟨w,Ev.bind (uf hl) (Ev.bind h1 (Ev.ct (by simpa using hc) Ev.pure)),fun _=>rfl,fun h=>absurd h hc⟩
theorem Ey {l l':List aK} {room:BA} (hp:l.Perm l') (hn:(l.map (·.ab)).Nodup):(l.find? fun d=>decide (d.ab=room))=l'.find? fun d=>decide (d.ab=room):=by
 have hn':(l'.map (·.ab)).Nodup:=(hp.map _).nodup_iff.1 hn
 have one:∀ {l:List aK},(l.map (·.ab)).Nodup→∀ {x y},x∈l→y∈l→x.ab=y.ab→x=y:=fun {l} hn x y hx hy e=>by
  induction l with
  | nil=>cases hx
  | cons a l ih=>
   rw [List.map_cons,List.nodup_cons] at hn
   rcases List.mem_cons.1 hx with h1 | h1 <;> rcases List.mem_cons.1 hy with h2 | h2
   ·rw [h1,h2]
   ·exact absurd (List.mem_map.2 ⟨y,h2,by rw [← h1]; exact e.symm⟩) hn.1
   ·exact absurd (List.mem_map.2 ⟨x,h1,by rw [← h2]; exact e⟩) hn.1
   ·exact ih hn.2 h1 h2
 cases h:l.find? fun d=>decide (d.ab=room) with
 | none=>
  symm
  rw [List.find?_eq_none] at h ⊢
  exact fun x hx=>h x (hp.mem_iff.2 hx)
 | some d=>
  cases h':l'.find? fun d=>decide (d.ab=room) with
  | none=>rw [List.find?_eq_none] at h'; exact absurd (List.find?_some h) (h' d (hp.mem_iff.1 (List.mem_of_find?_eq_some h)))
  | some d'=>
   have a:d.ab=room:=by simpa using List.find?_some h
   have b:d'.ab=room:=by simpa using List.find?_some h'
   rw [one hn (List.mem_of_find?_eq_some h) (hp.mem_iff.2 (List.mem_of_find?_eq_some h')) (a.trans b.symm)]
theorem II {w w':bA} {d:aK} (hn:(w.fD.map (·.ab)).Nodup) (hp:w'.fD.Perm (d::w.fD.filter fun x=>!decide (x.ab=d.ab))):(w'.fD.map (·.ab)).Nodup∧∀ room,lH w' room=if room=d.ab then d else lH w room:=by
 have hn2:((d::w.fD.filter fun x=>!decide (x.ab=d.ab)).map (·.ab)).Nodup:=by
  rw [List.map_cons,List.nodup_cons]
  refine ⟨fun h=>?_,(hn.sublist ((List.filter_sublist ..).map _))⟩
  obtain ⟨x,hx,e⟩:=List.mem_map.1 h
  simp at hx; exact hx.2 e
 have hn3:=(hp.map (·.ab)).nodup_iff.2 hn2
 refine ⟨hn3,fun room=>?_⟩
 unfold lH
 rw [Ey hp hn3,List.find?_cons]
 by_cases h:room=d.ab
 ·rw [if_pos h,dT h.symm]; rfl
 ·rw [if_neg h,dF (fun e=>h e.symm)]
  have key:((w.fD.filter fun x=>!decide (x.ab=d.ab)).find? fun d=>decide (d.ab=room))=w.fD.find? fun d=>decide (d.ab=room):=by
   rw [List.find?_filter]
   congr 1
   funext x
   by_cases hx:x.ab=room
   ·have:¬ x.ab=d.ab:=fun e=>h (hx.symm.trans e)
    simp [hx]; exact h
   ·simp [hx]
  show (((w.fD.filter fun x=>!decide (x.ab=d.ab)).find? fun d=>decide (d.ab=room))).getD _=_
  rw [key]
theorem I0 {v:aJ} {w:bA} {e:Event} (hr:xw v w) (he:Event.ok e) (hl:w.fD.length≤100000) (hd:(lH w e.ab).fL.length≤100000):
  ∃ v' w',Ev (fun k=>iW.f k v e) (code (lH w e.ab) e,v')∧Ev (fun k=>eB.f k w e) (w',code (lH w e.ab) e)∧xw v' w'∧
   (code (lH w e.ab) e≠0→w'=w∧v'=v)∧(code (lH w e.ab) e=0→(∀ room,lH w' room=if room=e.ab then ⟨e.ab,(lH w e.ab).fL++[e]⟩ else lH w room)∧w'.fD.length≤w.fD.length+1):=by
 obtain ⟨w',r1,r2,r3⟩:=IA he hl hd
 obtain ⟨m,v1,v2,v3⟩:=pA hr e.ab
 obtain ⟨m',a1,a2,a3⟩:=JE v2 he hd
 unfold iW.f
 by_cases hc:code (lH w e.ab) e=0
 ·obtain ⟨hp,hpS⟩:=r3 hc
  obtain ⟨n1,n2⟩:=II (d:=⟨e.ab,(lH w e.ab).fL++[e]⟩) hr.nd hp
  refine ⟨⟨mput v.bC e.ab m'⟩,w',?_,r1,⟨fun d hdm=>?_,fun room hroom=>?_,n1,tG hr.ndv,by rw [hpS]; exact sI hr.ri,fun d hdm=>by
   rcases List.mem_cons.1 (hp.mem_iff.1 hdm) with rfl | hdm
   ·simp
   ·exact hr.ne d (List.mem_filter.1 hdm).1⟩,fun h=>absurd hc h,fun _=>⟨n2,?_⟩⟩
  ·rw [hc] at a1 ⊢
   exact Ev.bind (Ev.of v1) (Ev.bind a1 (Ev.cf rfl Ev.pure))
  ·rcases List.mem_cons.1 (hp.mem_iff.1 hdm) with rfl | hdm
   ·refine ⟨m',by simp only [fX,if_true],?_⟩
    have:=a3 hc
    rwa [A7] at this
   ·simp at hdm
    obtain ⟨m2,q1,q2⟩:=hr.LS d hdm.1
    exact ⟨m2,by simp only [fX,if_neg (fun e=>hdm.2 e.symm:¬ e.ab=d.ab)]; exact q1,q2⟩
  ·have h1:e.ab≠room:=hroom _ (hp.mem_iff.2 (List.mem_cons_self ..))
   simp only [fX,if_neg h1]
   refine hr.LK room fun d hdm hdr=>?_
   by_cases h2:d.ab=e.ab
   ·exact h1 (h2.symm.trans hdr)
   ·exact hroom d (hp.mem_iff.2 (List.mem_cons_of_mem _ (by simp [hdm,h2]))) hdr
  ·rw [hp.length_eq,List.length_cons]
   have:=List.length_filter_le (fun d=>!decide (d.ab=e.ab)) w.fD
   exact Nat.succ_le_succ this
 ·obtain rfl:=r2 hc
  refine ⟨v,w',?_,r1,hr,fun _=>⟨rfl,rfl⟩,fun h=>absurd h hc⟩
  have:=a2 hc
  subst this
  refine Ev.bind (Ev.of v1) (Ev.bind a1 (Ev.ct (by simpa using hc) (Ev.of ?_)))
  have:wT v.bC e.ab m'=v.bC:=xU v3
  rw [this]
def Hz (n:Int):Prop:=-9223372036854775808≤n∧n≤9223372036854775807
theorem gF {n m:Int} (hn:Hz n) (h0:0<m) (hm:m≤9223372036854775807):∃ r,br.f n m=some r∧0≤r∧r<m:=by
 obtain ⟨h1,h2⟩:=hn
 unfold br.f
 have hne:m≠0:=om
 by_cases h:n<0
 ·rw [dT h,aE (x:=n+1) om om,aE om om]
  refine ⟨(0-(n+1)).tmod m,by simp only [cond_true,an,if_pos hne],?_⟩
  rw [Int.tmod_eq_emod_of_nonneg om]
  exact ⟨Int.emod_nonneg _ hne,Int.emod_lt_of_pos _ h0⟩
 ·rw [dF h]
  refine ⟨n.tmod m,by simp only [cond_false,an,if_pos hne],?_⟩
  rw [Int.tmod_eq_emod_of_nonneg om]
  exact ⟨Int.emod_nonneg _ hne,Int.emod_lt_of_pos _ h0⟩
def jo:List BA:=[⟨#[33,114,58,115,49]⟩,⟨#[33,113,58,115,50]⟩]
def l9:List BA:=[⟨#[64,97,58,115,49]⟩,⟨#[64,97,58,115,50]⟩,⟨#[64,97,58,115,51]⟩,⟨#[64,98,58,115,49]⟩,⟨#[64,98,58,115,50]⟩,⟨#[64,98,58,115,51]⟩,⟨#[64,99,58,115,49]⟩,⟨#[64,99,58,115,50]⟩,⟨#[64,99,58,115,51]⟩]
theorem int_lt {r:Int} {n:Nat} (h0:0≤r) (h1:r<n):∃ k:Nat,k<n∧r=(k:Int):=⟨r.toNat,om,om⟩
theorem D1 {n:Int} (hn:Hz n):∃ r,fc.f n=some r∧r∈jo:=by
 obtain ⟨m,h1,h2,h3⟩:=gF (m:=2) hn dc dc
 unfold fc.f
 rw [h1]
 obtain ⟨k,hk,rfl⟩:=int_lt (n:=2) h2 h3
 have:∀ k:Nat,k<2→∃ r,((some (k:Int)).bind fun t340=>an ((0:Int)≤t340∧t340<(([(⟨#[33,114,58,115,49]⟩:BA),(⟨#[33,113,58,115,50]⟩:BA)]:List BA).length:Int)) (some (aw.at ([(⟨#[33,114,58,115,49]⟩:BA),(⟨#[33,113,58,115,50]⟩:BA)]:List BA) t340)))=some r∧r∈jo:=by
  intro k hk
  match k,hk with
  | 0,_=>exact ⟨_,rfl,List.mem_of_getElem? (i:=0) rfl⟩
  | 1,_=>exact ⟨_,rfl,List.mem_of_getElem? (i:=1) rfl⟩
 exact this k hk
theorem EF:∀ k:Nat,k<9→∃ r,il.f (k:Int)=some r∧l9[k]? = some r:=by
 intro k hk
 match k,hk with
 | 0,_=>exact ⟨_,rfl,rfl⟩
 | 1,_=>exact ⟨_,rfl,rfl⟩
 | 2,_=>exact ⟨_,rfl,rfl⟩
 | 3,_=>exact ⟨_,rfl,rfl⟩
 | 4,_=>exact ⟨_,rfl,rfl⟩
 | 5,_=>exact ⟨_,rfl,rfl⟩
 | 6,_=>exact ⟨_,rfl,rfl⟩
 | 7,_=>exact ⟨_,rfl,rfl⟩
 | 8,_=>exact ⟨_,rfl,rfl⟩
theorem sF {k m:Nat} (h:k<m) (hm:0<m):br.f (k:Int) (m:Int)=some (k:Int):=by
 unfold br.f
 have:¬ ((k:Int)<0):=om
 have hne:(m:Int)≠0:=om
 rw [dF this]
 simp only [cond_false,an,if_pos hne]
 rw [Int.tmod_eq_emod_of_nonneg om,Int.emod_eq_of_lt om om]
theorem tK {n:Int} (hn:Hz n):∃ r,il.f n=some r∧r∈l9:=by
 obtain ⟨m,h1,h2,h3⟩:=gF (m:=9) hn dc dc
 obtain ⟨k,hk,rfl⟩:=int_lt (n:=9) h2 h3
 obtain ⟨r,hr,hu⟩:=EF k hk
 refine ⟨r,?_,List.mem_of_getElem? hu⟩
 rw [← hr]
 unfold il.f
 rw [h1,show (9:Int)=((9:Nat):Int) from rfl,sF hk dc]
theorem lV {n:Int} (h:(Lit.int .i64 n).wf=true):Hz n:=by
 have h':IntKind.i64.min≤n∧n≤9223372036854775807:=by simpa [Lit.wf] using h
 have e:IntKind.i64.min = -9223372036854775808:=dc
 unfold Hz
 omega
def mT (k:Nat):BA:=⟨#[36,101,UInt8.ofNat (48+k)]⟩
theorem vH:∀ k,k<9→j7 (mT k)=true:=fun k hk=>by
 have h:(List.range 9).all (fun k=>j7 (mT k))=true:=kr
 exact List.all_eq_true.1 h k (List.mem_range.2 hk)
theorem GX {j k:Nat} (h:j<k) (hk:k<9):dJ (mT j) (mT k)=true:=by
 have h2:(List.range 9).all (fun k=>(List.range k).all fun j=>dJ (mT j) (mT k))=true:=kr
 exact List.all_eq_true.1 (List.all_eq_true.1 h2 k (List.mem_range.2 hk)) j (List.mem_range.2 h)
theorem yW {j k:Nat} (h:j<k) (hk:k<9):mT j≠mT k:=BL (GX h hk)
theorem De {j k:Nat} (hj:j<9) (hk:k<9) (h:mT j=mT k):j=k:=by
 rcases Nat.lt_trichotomy j k with h1 | h1 | h1
 ·exact absurd h (yW h1 hk)
 ·exact h1
 ·exact absurd h.symm (yW h1 hj)
theorem qL (k:Nat):(mT k).size≤maxLen:=by show (3:Nat)≤9223372036854775807; omega
theorem Iz (k:Nat):mT k≠⟨#[]⟩:=fun h=>by
 have:=congrArg (fun s:BA=>s.size) h
 exact absurd this (by show ¬ (3:Nat)=0; decide)
theorem jG:∀ k:Nat,k<9→Ev (fun n=>dp.f n (k:Int)) (mT k):=by
 intro k hk
 refine Ev.add 2 fun m=>?_
 match k,hk with
 | 0,_=>rfl
 | 1,_=>rfl
 | 2,_=>rfl
 | 3,_=>rfl
 | 4,_=>rfl
 | 5,_=>rfl
 | 6,_=>rfl
 | 7,_=>rfl
 | 8,_=>rfl
theorem roomB {r:BA} (h:r∈jo):di r 33=true:=by
 have h2:jo.all (fun r=>di r 33)=true:=kr
 exact List.all_eq_true.1 h2 r h
theorem userB {r:BA} (h:r∈l9):di r 64=true:=by
 have h2:l9.all (fun r=>di r 64)=true:=kr
 exact List.all_eq_true.1 h2 r h
theorem EB {r:BA} (h:r∈jo):r.size≤maxLen:=by
 have h2:jo.all (fun r=>decide (r.size≤10))=true:=kr
 have:=of_decide_eq_true (List.all_eq_true.1 h2 r h)
 show _≤9223372036854775807; omega
theorem Ee {r:BA} (h:r∈l9):r.size≤maxLen:=by
 have h2:l9.all (fun r=>decide (r.size≤10))=true:=kr
 have:=of_decide_eq_true (List.all_eq_true.1 h2 r h)
 show _≤9223372036854775807; omega
theorem F1 {l S:List Nat} (hn:l.Nodup) (hs:∀ x∈l,x∈S):l.length≤S.length:=by
 induction l generalizing S with
 | nil=>simp
 | cons a l ih=>
  rw [List.nodup_cons] at hn
  have ha:=hs a (List.mem_cons_self ..)
  have h1:=ih (S:=S.erase a) hn.2 fun x hx=>(List.mem_erase_of_ne fun e=>hn.1 (by rw [← e]; exact hx)).2 (hs x (List.mem_cons_of_mem _ hx))
  rw [List.length_erase_of_mem ha] at h1
  have:=List.length_pos_of_mem ha
  simp only [List.length_cons]; omega
structure MI (room:BA) (L:List Event):Prop where
 len:L.length≤9
 ids:∀ k,k<L.length→(ev L k).bV=mT k
theorem JT {room:BA} {L:List Event} (h:MI room L) {k:Nat} (hk:k<L.length):ix L (mT k)=(k:Int):=by
 have hl:=h.len
 rcases mZ L (mT k) with ⟨_,q⟩ | ⟨j,q,hj,he⟩
 ·exact absurd (h.ids k hk) (q k hk)
 ·rw [h.ids j hj] at he
  rw [q,De om om he]
theorem LB {room:BA} {L:List Event} (h:MI room L) (hl:L.length<9):ix L (mT L.length) = -1:=by
 rcases mZ L (mT L.length) with ⟨q,_⟩ | ⟨j,q,hj,he⟩
 ·exact q
 ·rw [h.ids j hj] at he
  exact absurd (De om hl he) om
theorem Eu {room user th:BA} {L:List Event} {ks:List Nat} {lE:Int} (h:MI room L) (hl:L.length<9) (hr:room∈jo) (hu:user∈l9) (hk:∀ k∈ks,k<L.length) (hs:ks.Pairwise (· < ·)) (h4:ks.length≤3) (hd:0≤lE∧lE<3)
  (ht:th=⟨#[]⟩∨(lE=0∧∃ t,t<L.length∧th=mT t∧(ev L t).bR=0∧(ev L t).ae=⟨#[]⟩)):code ⟨room,L⟩ ⟨mT L.length,room,ks.map mT,th,user,lE⟩=0:=by
 have hpar:∀ i,(hi:i<ks.length)→par ⟨mT L.length,room,ks.map mT,th,user,lE⟩ i=mT ks[i]:=fun i hi=>by
  unfold par
  rw [gD,List.getElem?_map,gE hi]; rfl
 have hmay:pO ⟨mT L.length,room,ks.map mT,th,user,lE⟩=true:=by
  unfold pO
  simp only [vH _ hl,roomB hr,userB hu,Bool.true_and,List.length_map,Bool.and_eq_true,decide_eq_true_eq,kG]
  refine ⟨om,hd.1,om,?_,fun i _ hi=>?_⟩
  ·unfold xx
   rcases ht with ht | ⟨h0,t,h1,h2,_⟩
   ·simp [ht]
   ·simp only [h2,vH t om,h0,Bool.true_and,decide_true,Bool.and_true,Bool.or_eq_true,Bool.not_eq_true',decide_eq_false_iff_not]
    exact .inr (yW h1 hl)
  ·unfold sV
   rw [hpar i hi]
   have hki:=hk _ (List.getElem_mem hi)
   simp only [vH _ (show ks[i]<9 by omega),Bool.true_and,Bool.and_eq_true,Bool.not_eq_true',decide_eq_false_iff_not,Bool.or_eq_true,decide_eq_true_eq]
   refine ⟨yW hki hl,?_⟩
   by_cases h0:i=0
   ·exact .inl h0
   ·right
    rw [hpar (i-1) om]
    exact GX (List.pairwise_iff_getElem.1 hs (i-1) i om hi om) om
 unfold code
 rw [hmay]
 have hall:ie (fun i=>decide (0≤ix L (par ⟨mT L.length,room,ks.map mT,th,user,lE⟩ i))) 0 (ks.map mT).length=true:=by
  rw [kG]
  intro i _ hi
  rw [List.length_map] at hi
  rw [hpar i hi,JT h (hk _ (List.getElem_mem hi))]
  simp
 simp only [Bool.true_eq_false,if_false,ne_eq,not_true_eq_false,LB h hl,hall]
 rw [if_neg om]
 rcases ht with ht | ⟨h0,t,h1,h2,h3,h5⟩
 ·simp [ht]
 ·rw [if_neg (by rw [h2]; exact Iz t),h2,JT h h1,Int.toNat_natCast,h3,h5]
  simp
theorem IZ {room user th:BA} {n:Nat} {ks:List Nat} {lE:Int} (hr:room∈jo) (hu:user∈l9) (h4:ks.length≤3) (hd:0≤lE∧lE<3) (ht:th=⟨#[]⟩∨∃ t,th=mT t):Event.ok ⟨mT n,room,ks.map mT,th,user,lE⟩:=by
 refine ⟨qL _,EB hr,⟨by rw [List.length_map]; show _≤9223372036854775807; omega,fun x hx=>?_⟩,?_,Ee hu,?_,trivial⟩
 ·obtain ⟨k,_,rfl⟩:=List.mem_map.1 hx; exact qL k
 ·rcases ht with rfl | ⟨t,rfl⟩
  ·show (0:Nat)≤9223372036854775807; omega
  ·exact qL t
 ·have:lE=0∨lE=1∨lE=2:=om
  rcases this with rfl | rfl | rfl <;> rfl
end Go.Proofs.YtfknmdelgepbjaaGreatDoor
