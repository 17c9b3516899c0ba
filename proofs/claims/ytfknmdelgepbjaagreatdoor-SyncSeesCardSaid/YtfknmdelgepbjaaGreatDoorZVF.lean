import Derived.Test.YtfknmdelgepbjaaGreatDoorZPX
import Derived.Test.YtfknmdelgepbjaaGreatDoorZMA
import Derived.Test.YtfknmdelgepbjaaGreatDoorZWalks3
import Derived.Test.YtfknmdelgepbjaaGreatDoorConA6
import Derived.Test.YtfknmdelgepbjaaGreatDoorZOk
import Derived.Test.YtfknmdelgepbjaaGreatDoorConV
set_option linter.all false
set_option maxRecDepth 10000
namespace Go.Proofs.YtfknmdelgepbjaaGreatDoor
open Go Go.Sp
def lt (t:oc) (a b:Event):Prop:=ltOf gI (pos t a.b9) (pos t b.b9)=true
theorem J0 {t:oc} {a:Event} (h:lt t a a):False:=by have:=pT.irrefl (pos t a.b9); unfold lt at h; rw [h] at this; cases this
theorem Jh {t:oc} {a b c:Event} (h:lt t a b) (k:lt t b c):lt t a c:=pT.trans _ _ _ h k
def vJ (t:oc) (id:BA):Event:=((mget t id).map (·.1)).getD default
def PL (t:oc):List Pos:=t.map fun x=>⟨x.2.2,x.1⟩
def mN (t:oc):List Event:=(kO gI (PL t)).map fun p=>vJ t p.b9
section
variable {t:oc} (hn:(t.map (·.1)).Nodup) (hi:∀ x∈t,x.2.1.b9=x.1)
include hn
theorem FF {x:BA×(Event×Int)} (h:x∈t):mget t x.1=some x.2:=by
 obtain ⟨i,h1⟩:=List.mem_iff_getElem?.1 h
 exact yq hn h1
theorem BP {x:BA×(Event×Int)} (h:x∈t):vJ t x.1=x.2.1:=by unfold vJ; rw [FF hn h]; rfl
theorem Kl {x:BA×(Event×Int)} (h:x∈t):pos t x.1=⟨x.2.2,x.1⟩:=by unfold pos qT; rw [FF hn h]; rfl
theorem CY:(mN t).Perm (t.map (·.2.1)):=by
 have h1:(mN t).Perm ((PL t).map fun p=>vJ t p.b9):=(pX _).map _
 have h2:(PL t).map (fun p=>vJ t p.b9)=t.map (·.2.1):=by
  unfold PL
  rw [List.map_map]
  exact List.map_congr_left fun x hx=>BP hn hx
 rw [h2] at h1; exact h1
include hi
theorem E8:(mN t).Pairwise (lt t):=by
 unfold mN
 rw [List.pairwise_map]
 have hnd:(kO gI (PL t)).Nodup:=by
  rw [(pX _).nodup_iff]
  have:((PL t).map (·.b9)).Nodup:=by unfold PL; rw [List.map_map]; exact hn
  exact List.Pairwise.of_map _ (fun a b h e=>h (congrArg _ e)) this
 have hp:∀ p∈kO gI (PL t),pos t (vJ t p.b9).b9=p:=fun p hp=>by
  have:=(pX _).mem_iff.1 hp
  obtain ⟨x,hx,rfl⟩:=List.mem_map.1 this
  show pos t (vJ t x.1).b9=_
  rw [BP hn hx,hi x hx,Kl hn hx]
 refine List.Pairwise.imp_of_mem ?_ ((yb pT (PL t)).and hnd)
 intro a b ha hb h
 show ltOf gI _ _=true
 rw [hp a ha,hp b hb]
 cases h2:ltOf gI a b with
 | true=>rfl
 | false=>exact absurd (rN a b h2 h.1) h.2
end
theorem Je (L:List Event):∀ x∈tb L,x.2.1.b9=x.1:=by
 induction L using rj with
 | h0=>intro x hx; cases hx
 | h1 l e ih=>
  intro x hx
  rw [qP] at hx
  rcases List.mem_append.1 hx with h | h
  ·exact ih x h
  ·rw [List.mem_singleton.1 h]
theorem yU {L:List Event} (hg:Good L):(mN (tb L)).Perm L:=by have:=CY (tD hg); rwa [A0] at this
theorem He {L:List Event} (hg:Good L):(mN (tb L)).Pairwise (lt (tb L)):=E8 (tD hg) (Je L)
theorem Ka {e:Event} (h:e.ae.length≤4):iA.f e=some e:=by
 unfold iA.f dL.f
 simp only [aq]
 rw [if_pos ⟨om,om⟩]; rfl
structure RT (m:bf) (t:oc):Prop where
 G1:T m=t
 nd:(t.map (·.1)).Nodup
 id:∀ x∈t,x.2.1.b9=x.1
 par:∀ x∈t,x.2.1.ae.length≤4
 len:t.length≤1000
theorem Jz {m:bf} {t:oc} (hr:RT m t):Ev (fun k=>dag_Dag_All.f k m) (mN t):=by
 have hfn:m.ar.length=t.length:=by rw [← hr.G1]; unfold T; rw [List.length_map]
 have hlen:=hr.len
 have e1:m.ar.filterMap aI.g=PL t:=by
  unfold PL
  rw [← hr.G1]
  unfold T
  rw [List.map_map,← List.filterMap_eq_map]
  rfl
 have hid:aI.f m=some ((kO gI (PL t)).map (·.b9)):=by
  unfold aI.f
  rw [e1]; simp only [aq]; rw [if_pos om]
 have hS:∀ p∈kO gI (PL t),∃ x∈t,p.b9=x.1:=fun p hp=>by
  obtain ⟨x,hx,rfl⟩:=List.mem_map.1 ((pX _).mem_iff.1 hp); exact ⟨x,hx,rfl⟩
 have hSl:(kO gI (PL t)).length≤1000:=by rw [(pX _).length_eq]; unfold PL; rw [List.length_map]; exact hlen
 have loop:∀ S:List Pos,S.length≤1000→(∀ p∈S,∃ x∈t,p.b9=x.1)→∀ n x:Nat,S.length-x=n→x≤S.length→∀ out:List Event,out.length=x→
   El (fun k j=>dag_Dag_All.l0 k m (S.map (·.b9)) j (x:Int) out) (((S.map (·.b9)).length:Int),(S.length:Int),false,out++(S.drop x).map (fun p=>vJ t p.b9),S.map (·.b9)):=by
  intro S hSl hS n
  induction n with
  | zero=>
   intro x hd hx out ho
   obtain rfl:x=S.length:=om
   refine El.step (fun _ _=>by rw [dag_Dag_All.l0]) ?_
   have:decide ((S.length:Int)<((S.map (·.b9)).length:Int))=false:=dF (by rw [List.length_map]; omega)
   rw [List.drop_length,List.map_nil,List.append_nil]
   exact El.cf this (by rw [this]; exact El.pure)
  | succ n ih=>
   intro x hd hx out ho
   have hx2:x<S.length:=om
   have hat:(S.map (·.b9)).getD x default=(S[x]).b9:=by rw [gD,List.getElem?_map,gE hx2]; rfl
   obtain ⟨y,hy,he⟩:=hS S[x] (List.getElem_mem hx2)
   have hg:mget t (S[x]).b9=some y.2:=by rw [he]; exact FF hr.nd hy
   have hm:(mget m.ar (S[x]).b9).map (fun nd=>(nd.fe,nd.cI))=some y.2:=by rw [← Ad,hr.G1]; exact hg
   obtain ⟨nd,hnd⟩:∃ nd,mget m.ar (S[x]).b9=some nd:=by
    cases h:mget m.ar (S[x]).b9 with
    | none=>rw [h] at hm; cases hm
    | some nd=>exact ⟨nd,rfl⟩
   have hfe:nd.fe=vJ t (S[x]).b9:=by
    rw [hnd] at hm
    unfold vJ
    rw [hg,← Option.some.inj hm]; rfl
   have hpl:nd.fe.ae.length≤4:=by
    rw [hnd] at hm
    have:=congrArg Prod.fst (Option.some.inj hm)
    simp only at this
    rw [this]; exact hr.par y hy
   refine El.step (fun _ _=>by rw [dag_Dag_All.l0]) ?_
   rw [Int.toNat_natCast,hat]
   refine El.ct (dT (by rw [List.length_map]; omega)) (El.aq ⟨om,by rw [List.length_map]; omega⟩ (El.aq (by rw [hnd]; rfl) ?_))
   rw [hnd]
   refine El.bind (Ev.of (Ka hpl)).el (El.aq ⟨by rw [List.length_singleton]; omega,by rw [List.length_singleton]; omega⟩ ?_)
   rw [kU (show x≤1000000 by omega)]
   have:=ih (x+1) om om (out++[nd.fe]) (by rw [List.length_append,List.length_singleton]; omega)
   rw [List.drop_eq_getElem_cons hx2,List.map_cons,← hfe]
   rw [List.append_assoc] at this
   exact this
 unfold dag_Dag_All.f
 refine Ev.bind (Ev.bind (Ev.of hid) (loop _ hSl hS _ 0 rfl om [] rfl).diag) (Ev.of ?_)
 rw [List.drop_zero]; rfl
def oB (acc:List (BA×Int)) (e:Event):List (BA×Int):=if e.bL=1 then mput acc e.ak 1 else if e.bL=2 then lK acc e.ak else acc
def jm (A:List Event):List (BA×Int):=A.foldl oB []
def gX (u:BA) (e:Event):Bool:=decide (e.ak=u) && !decide (e.bL=0)
def nz (u:BA) (A:List Event) (r:Option Event):Option Event:=A.foldl (fun r e=>if gX u e=true then some e else r) r
def oj:Option Event→Option Int
 | some e=>if e.bL=1 then some 1 else none
 | none=>none
theorem Jk:∀ (A:List Event),(∀ e∈A,e.bL=0∨e.bL=1∨e.bL=2)→∀ (acc:List (BA×Int)) (r:BA→Option Event),Nd acc→(∀ u,mget acc u=oj (r u))→Nd (A.foldl oB acc)∧∀ u,mget (A.foldl oB acc) u=oj (nz u A (r u))
 | [],_,acc,r,h1,h2=>⟨h1,h2⟩
 | e::A,hd,acc,r,h1,h2=>by
  show Nd (A.foldl oB (oB acc e))∧∀ u,mget (A.foldl oB (oB acc e)) u=oj (nz u A (if gX u e=true then some e else r u))
  refine Jk A (fun x hx=>hd x (List.mem_cons_of_mem _ hx)) (oB acc e) (fun u=>if gX u e=true then some e else r u) ?_ fun u=>?_
  ·unfold oB
   split
   ·exact se h1
   ·split
    ·exact (List.Sublist.map _ u0).nodup h1
    ·exact h1
  ·unfold oB gX
   rcases hd e (List.mem_cons_self ..) with h | h | h
   ·rw [if_neg om,if_neg om,h2]; simp [h]
   ·rw [if_pos h,fz,h2]
    by_cases hu:e.ak=u
    ·simp [hu,h,oj]
    ·simp [hu]
   ·rw [if_neg om,if_pos h,oE h1,h2]
    by_cases hu:e.ak=u
    ·simp [hu,h,oj]
    ·simp [hu]
theorem zg {A:List Event} (hl:A.length≤1000):∀ n x:Nat,A.length-x=n→x≤A.length→∀ acc,
  ∃ r:Int×Int×Bool×List (BA×Int)×List Event,El (fun k j=>member_joined.l0 k A j (x:Int) acc) r∧r.2.2.2.1=(A.drop x).foldl oB acc:=by
 intro n
 induction n with
 | zero=>
  intro x hd hx acc
  obtain rfl:x=A.length:=om
  refine ⟨((A.length:Int),(A.length:Int),false,acc,A),?_,by rw [List.drop_length]; rfl⟩
  refine El.step (fun _ _=>by rw [member_joined.l0]) ?_
  exact El.cf sM (by simpa using El.pure)
 | succ n ih=>
  intro x hd hx acc
  have hx2:x<A.length:=om
  have hat:A.getD x default=ev A x:=rfl
  have hdr:A.drop x=ev A x::A.drop (x+1):=by rw [List.drop_eq_getElem_cons hx2]; unfold ev; rw [gD,gE hx2]; rfl
  obtain ⟨r,r1,r2⟩:=ih (x+1) om om (oB acc (ev A x))
  refine ⟨r,?_,by rw [hdr]; exact r2⟩
  refine El.step (fun _ _=>by rw [member_joined.l0]) ?_
  rw [Int.toNat_natCast,hat,kU (show x≤1000000 by omega)]
  refine El.ct (dT om) (El.aq ⟨om,om⟩ ?_)
  unfold oB at r1
  by_cases h1:(ev A x).bL=1
  ·rw [if_pos h1] at r1
   exact El.ct (by simp [h1]) r1
  ·rw [if_neg h1] at r1
   refine El.cf (by simp [h1]) ?_
   by_cases h2:(ev A x).bL=2
   ·rw [if_pos h2] at r1
    exact El.ct (by simp [h2]) r1
   ·rw [if_neg h2] at r1
    exact El.cf (by simp [h2]) r1
theorem Dq {m:bf} {t:oc} (hr:RT m t):Ev (fun k=>member_joined.f k m) (jm (mN t)):=by
 have hl:(mN t).length≤1000:=by unfold mN; rw [List.length_map,(pX _).length_eq]; unfold PL; rw [List.length_map]; exact hr.len
 obtain ⟨r,r1,r2⟩:=zg hl _ 0 rfl om []
 unfold member_joined.f
 refine Ev.bind (Ev.bind (Jz hr) r1.diag) (Ev.of ?_)
 rw [r2]; rfl
def Mx (t:oc) (L:List Event) (u:BA):Option Event→Prop
 | none=>∀ e∈L,gX u e=false
 | some e=>e∈L∧gX u e=true∧∀ e'∈L,gX u e'=true→e'=e∨lt t e' e
theorem Ci {t:oc} {L:List Event} {u:BA}:∀ {o o':Option Event},Mx t L u o→Mx t L u o'→o=o'
 | none,none,_,_=>rfl
 | none,some e,h,h'=>by have:=h e h'.1; rw [h'.2.1] at this; cases this
 | some e,none,h,h'=>by have:=h' e h.1; rw [h.2.1] at this; cases this
 | some e,some e',h,h'=>by
  rcases h.2.2 e' h'.1 h'.2.1 with k | k
  ·rw [k]
  ·rcases h'.2.2 e h.1 h.2.1 with q | q
   ·rw [q]
   ·exact (J0 (Jh k q)).elim
theorem BU {t:oc} {u:BA}:∀ (A:List Event),A.Pairwise (lt t)→∀ r:Option Event,match nz u A r with
  | none=>r=none∧∀ e∈A,gX u e=false
  | some e=>(r=some e∧∀ e'∈A,gX u e'=false)∨(e∈A∧gX u e=true∧∀ e'∈A,gX u e'=true→e'=e∨lt t e' e)
 | [],_,none=>⟨rfl,fun _ h=>by cases h⟩
 | [],_,some e=>.inl ⟨rfl,fun _ h=>by cases h⟩
 | x::A,h,r=>by
  rw [List.pairwise_cons] at h
  have ih:=BU (u:=u) A h.2 (if gX u x=true then some x else r)
  show match nz u A (if gX u x=true then some x else r) with
   | none=>r=none∧∀ e∈x::A,gX u e=false
   | some e=>(r=some e∧∀ e'∈x::A,gX u e'=false)∨(e∈x::A∧gX u e=true∧∀ e'∈x::A,gX u e'=true→e'=e∨lt t e' e)
  cases hq:nz u A (if gX u x=true then some x else r) with
  | none=>
   rw [hq] at ih
   cases hx:gX u x with
   | true=>rw [hx] at ih; cases ih.1
   | false=>
    rw [hx] at ih
    exact ⟨ih.1,fun e he=>(List.mem_cons.1 he).elim (fun k=>by rw [k]; exact hx) (ih.2 e)⟩
  | some e=>
   rw [hq] at ih
   rcases ih with ⟨h1,h2⟩ | ⟨h1,h2,h3⟩
   ·cases hx:gX u x with
    | true=>
     rw [hx] at h1
     cases h1
     refine .inr ⟨List.mem_cons_self ..,hx,fun e' he hr=>?_⟩
     rcases List.mem_cons.1 he with k | k
     ·exact .inl k
     ·have:=h2 e' k; rw [hr] at this; cases this
    | false=>
     rw [hx] at h1
     exact .inl ⟨h1,fun e' he=>(List.mem_cons.1 he).elim (fun k=>by rw [k]; exact hx) (h2 e')⟩
   ·refine .inr ⟨List.mem_cons_of_mem _ h1,h2,fun e' he hr=>?_⟩
    rcases List.mem_cons.1 he with k | k
    ·rw [k]; exact .inr (h.1 e h1)
    ·exact h3 e' k hr
theorem Fw {L:List Event} (hg:Good L) (u:BA):Mx (tb L) L u (nz u (mN (tb L)) none):=by
 have h:=BU (u:=u) (mN (tb L)) (He hg) none
 have hm:∀ e,e∈mN (tb L)↔e∈L:=fun e=>(yU hg).mem_iff
 cases hq:nz u (mN (tb L)) none with
 | none=>rw [hq] at h; exact fun e he=>h.2 e ((hm e).2 he)
 | some e=>
  rw [hq] at h
  rcases h with ⟨h,_⟩ | ⟨h1,h2,h3⟩
  ·cases h
  ·exact ⟨(hm e).1 h1,h2,fun e' he=>h3 e' ((hm e').2 he)⟩
structure Bz (m:bf) (d:aF):Prop where
 rel:Rel m d
 G1:T m=tb d.fL
 uz:Good d.fL
 par:∀ e∈d.fL,e.ae.length≤4
 lr:∀ e∈d.fL,e.bL=0∨e.bL=1∨e.bL=2
 usr:∀ e∈d.fL,e.ak.size≤maxLen
 flg:∀ x∈m.ar,x.2.kB=sT d.fL x.1
theorem E0 (room:BA):Bz ⟨room,[]⟩ ⟨room,[]⟩:=⟨ri room,rfl,⟨List.nodup_nil,fun i hi=>by simp at hi⟩,fun e he=>(by cases he),fun e he=>(by cases he),fun e he=>(by cases he),fun x hx=>(by cases hx)⟩
theorem yO {κ α:Type} [DecidableEq κ] {k:κ} {a:α}:∀ {m:List (κ×α)},(m.map (·.1)).Nodup→∀ x,x∈mput m k a→x=(k,a)∨(x∈m∧x.1≠k)
 | [],_,x,h=>by simp [mput] at h; exact .inl h
 | e::m,hn,x,h=>by
  rw [List.map_cons,List.nodup_cons] at hn
  simp only [mput] at h
  split at h
  ·rename_i hk
   rcases List.mem_cons.1 h with h | h
   ·exact .inl h
   ·refine .inr ⟨List.mem_cons_of_mem _ h,fun e2=>hn.1 ?_⟩
    rw [hk,← e2]; exact List.mem_map.2 ⟨x,h,rfl⟩
  ·rename_i hk
   rcases List.mem_cons.1 h with h | h
   ·exact .inr ⟨by rw [h]; exact List.mem_cons_self ..,by rw [h]; exact hk⟩
   ·rcases yO hn.2 x h with h2 | ⟨h2,h3⟩
    ·exact .inl h2
    ·exact .inr ⟨List.mem_cons_of_mem _ h2,h3⟩
theorem markF {e:Event} (he:Event.ok e):∀ n x,e.ae.length-x=n→x≤e.ae.length→∀ (dep:Int) (m:bf),(∀ i,i<e.ae.length→(mget m.ar (par e i)).isSome=true)→(m.ar.map (·.1)).Nodup→
  ∃ r:Int×Bool×Int×bf,El (fun k j=>dag_Dag_Add.l0 k e j (x:Int) dep m) r∧∀ y∈r.2.2.2.ar,∃ z∈m.ar,y.1=z.1∧y.2.kB=(z.2.kB||FL (e.ae.drop x) z.1):=by
 have hn:e.ae.length≤9223372036854775807:=he.2.2.1.1
 intro n
 induction n with
 | zero=>
  intro x hd hx dep m hm hnd
  obtain rfl:x=e.ae.length:=om
  refine ⟨((e.ae.length:Int),false,dep,m),?_,fun y hy=>⟨y,hy,rfl,by rw [List.drop_length]; simp [FL]⟩⟩
  refine El.step (fun _ _=>by rw [dag_Dag_Add.l0]) ?_
  exact El.cf sM (by simpa using El.pure)
 | succ n ih=>
  intro x hd hx dep m hm hnd
  have hx2:x<e.ae.length:=om
  obtain ⟨nd,hnd2⟩:=Option.isSome_iff_exists.1 (hm x hx2)
  have hg:(mget m.ar (par e x)).getD default=nd:=by rw [hnd2]; rfl
  have hdr:e.ae.drop x=par e x::e.ae.drop (x+1):=by
   rw [List.drop_eq_getElem_cons hx2]; unfold par; rw [gD,gE hx2]; rfl
  obtain ⟨r,h1,h2⟩:=ih (x+1) om om (max dep (ax (nd.cI+1))) (⟨m.cM,mput m.ar (par e x) (⟨nd.fe,nd.cI,true⟩:aT)⟩:bf) (fun i hi=>by
   have h4:=hm i hi
   show (mget (mput m.ar (par e x) (⟨nd.fe,nd.cI,true⟩:aT)) (par e i)).isSome=true
   rw [fz]
   split
   ·rfl
   ·exact h4) (by
   have:=uY (fun x:BA×aT=>x.1) (a':=(⟨nd.fe,nd.cI,true⟩:aT)) hnd2 rfl
   show ((mput m.ar (par e x) (⟨nd.fe,nd.cI,true⟩:aT)).map (·.1)).Nodup
   rw [this]; exact hnd)
  refine ⟨r,?_,fun y hy=>?_⟩
  ·refine El.step (fun _ _=>by rw [dag_Dag_Add.l0]) ?_
   refine El.ct (by simpa using hx2) (El.aq ⟨om,om⟩ ?_)
   rw [lJ hx2,hg]
   refine El.aq (hm x hx2) ?_
   rw [aJ (x:=(x:Int)+1) om om]
   exact h1
  ·obtain ⟨z,hz,e1,e2⟩:=h2 y hy
   rw [hdr]
   rcases yO hnd z hz with rfl | ⟨hz2,hz3⟩
   ·refine ⟨(par e x,nd),ru hnd2,e1,?_⟩
    rw [e2]; simp [FL]
   ·refine ⟨z,hz2,e1,?_⟩
    rw [e2]
    have:¬ par e x=z.1:=fun h=>hz3 h.symm
    simp [FL,this]
theorem FK {d:aF} {e:Event} (h:code d e=0):o4 e=true∧ix d.fL e.b9<0∧gS (fun i=>decide (0≤ix d.fL (Go.Proofs.YtfknmdelgepbjaaGreatDoor.par e i))) 0 e.ae.length=true:=by
 unfold code at h
 split at h
 ·cases h
 ·rename_i c1
  split at h
  ·cases h
  ·split at h
   ·cases h
   ·rename_i c3
    split at h
    ·cases h
    ·rename_i c4
     refine ⟨by simpa using c1,Int.not_le.1 c3,?_⟩
     cases hh:gS (fun i=>decide (0≤ix d.fL (Go.Proofs.YtfknmdelgepbjaaGreatDoor.par e i))) 0 e.ae.length with
     | true=>rfl
     | false=>exact absurd hh c4
theorem BR {e:Event} {p:BA} (h:p∈e.ae):∃ i,i<e.ae.length∧par e i=p:=by
 obtain ⟨i,hi,rfl⟩:=List.mem_iff_getElem.1 h
 exact ⟨i,hi,by unfold par; rw [gD,gE hi]; rfl⟩
theorem F8 {d:aF} {e:Event} (hg:Good d.fL) (hc:code d e=0):Good (d.fL++[e]):=by
 obtain ⟨_,h1,h2⟩:=FK hc
 refine ⟨?_,fun i hi p hp=>?_⟩
 ·rw [List.map_append,List.nodup_append]
  refine ⟨hg.uq,List.nodup_cons.2 ⟨sM,List.nodup_nil⟩,fun a ha b hb=>?_⟩
  obtain ⟨x,hx,rfl⟩:=List.mem_map.1 ha
  simp at hb
  rw [hb]
  intro he
  obtain ⟨j,hj,rfl⟩:=sr hx
  rcases mO d.fL e.b9 with ⟨_,k⟩ | ⟨q,k,_⟩
  ·exact k j hj he
  ·omega
 ·rw [List.length_append,List.length_singleton] at hi
  rcases Nat.lt_or_ge i d.fL.length with k | k
  ·rw [nr k] at hp
   obtain ⟨j,hj,he⟩:=hg.cl i k p hp
   exact ⟨j,hj,by rw [nr om]; exact he⟩
  ·obtain rfl:i=d.fL.length:=om
   rw [qQ] at hp
   obtain ⟨q,hq,rfl⟩:=BR hp
   have:=kc.1 h2 q om hq
   rcases mO d.fL (par e q) with ⟨k1,_⟩ | ⟨j,k1,hj,he⟩
   ·simp [k1] at this
   ·exact ⟨j,hj,by rw [nr hj]; exact he⟩
theorem It {m:bf} {d:aF} {e:Event} (hr:Bz m d) (he:Event.ok e) (hl:d.fL.length≤100000):∃ m',Ev (fun k=>dag_Dag_Add.f k m e) (code d e,m')∧(code d e≠0→m'=m)∧(code d e=0→Bz m' ⟨d.aa,d.fL++[e]⟩):=by
 obtain ⟨m',h1,h2,h3⟩:=Hv hr.rel he (Kp hr.G1 hl)
 refine ⟨m',h1,h2,fun hc=>?_⟩
 obtain ⟨a1,a2,r,a3,a4⟩:=h3 hc
 obtain ⟨c1,c2,c3⟩:=FK hc
 have hg:=F8 hr.uz hc
 have hall:∀ i,i<e.ae.length→(mget m.ar (par e i)).isSome=true:=fun i hi=>by
  have h1:=kc.1 c3 i om hi
  rcases sq hr.rel (par e i) with ⟨q,_⟩ | ⟨j,q,_,_,nd,h,_⟩
  ·simp [q] at h1
  ·rw [h]; rfl
 have hkeys:m.ar.map (·.1)=d.fL.map (·.b9):=by
  rw [← yu,← hr.G1]; unfold T; rw [List.map_map]; rfl
 have hnd:(m.ar.map (·.1)).Nodup:=by rw [hkeys]; exact hr.uz.uq
 obtain ⟨r',b1,b2⟩:=markF he _ 0 rfl om 0 m hall hnd
 have hrr:r'=r:=Ev.uniq b1.diag a3.diag
 subst hrr
 have cm:=c1
 unfold o4 at cm
 simp at cm
 have hself:e.b9 ∉ e.ae:=fun hp=>by
  obtain ⟨q,hq,hq2⟩:=BR hp
  have:=kc.1 cm.2.2.2.2.2.2.2 q om hq
  unfold rX at this
  simp [hq2] at this
 refine ⟨a1,by rw [a2,hr.G1,qP],hg,fun x hx=>?_,fun x hx=>?_,fun x hx=>?_,fun x hx=>?_⟩
 ·rcases List.mem_append.1 hx with k | k
  ·exact hr.par x k
  ·rw [List.mem_singleton.1 k]; exact cm.2.2.2.1
 ·rcases List.mem_append.1 hx with k | k
  ·exact hr.lr x k
  ·rw [List.mem_singleton.1 k]; have:=cm.2.2.2.2.1; have:=cm.2.2.2.2.2.1; omega
 ·rcases List.mem_append.1 hx with k | k
  ·exact hr.usr x k
  ·rw [List.mem_singleton.1 k]; exact he.2.2.2.2.1
 ·rw [a4] at hx
  have hnew:mget r'.2.2.2.ar e.b9=none:=by
   cases hh:mget r'.2.2.2.ar e.b9 with
   | none=>rfl
   | some v=>
    obtain ⟨z,hz,e1,_⟩:=b2 _ (ru hh)
    have:e.b9∈m.ar.map (·.1):=by rw [show e.b9=z.1 from e1]; exact List.mem_map.2 ⟨z,hz,rfl⟩
    rw [hkeys] at this
    obtain ⟨x2,hx2,hx3⟩:=List.mem_map.1 this
    obtain ⟨j,hj,rfl⟩:=sr hx2
    rcases mO d.fL e.b9 with ⟨_,k⟩ | ⟨q,k,_⟩
    ·exact absurd hx3 (k j hj)
    ·omega
  rw [tW hnew] at hx
  have happ:∀ id,sT (d.fL++[e]) id=(sT d.fL id||FL e.ae id):=fun id=>by unfold sT; rw [List.any_append]; simp
  show x.2.kB=sT (d.fL++[e]) x.1
  rcases List.mem_append.1 hx with k | k
  ·obtain ⟨z,hz,e1,e2⟩:=b2 x k
   rw [e2,e1,happ,hr.flg z hz,List.drop_zero]
  ·rw [List.mem_singleton.1 k,happ]
   show false=(sT d.fL e.b9||FL e.ae e.b9)
   rw [J4 hself]
   cases hp:sT d.fL e.b9 with
   | false=>rfl
   | true=>
    exfalso
    unfold sT at hp
    obtain ⟨y,hy,hy2⟩:=List.any_eq_true.1 hp
    obtain ⟨i,hi,rfl⟩:=sr hy
    obtain ⟨j,hj,hje⟩:=hr.uz.cl i hi _ (BM.1 hy2)
    rcases mO d.fL e.b9 with ⟨_,k⟩ | ⟨q,k,_⟩
    ·exact k j om hje
    ·omega
def lv (w:bq) (room:BA):aF:=(w.fD.find? fun d=>decide (d.aa=room)).getD ⟨room,[]⟩
theorem yV (w:bq) (room:BA):(lv w room).aa=room:=by
 unfold lv
 cases h:w.fD.find? fun d=>decide (d.aa=room) with
 | none=>rfl
 | some d=>simpa using List.find?_some h
theorem sJ {w:bq} {room:BA} (hl:w.fD.length≤100000):Ev (fun k=>gZ.f k w room) (lv w room):=by
 unfold gZ.f
 have key:∀ n x:Nat,w.fD.length-x=n→x≤w.fD.length→∃ r:(Int×Bool) ⊕ aF,El (fun k j=>gZ.l0 k w room j (x:Int)) r∧fall (fun (p555:Int×Bool)=>some (⟨room,([]:List Event)⟩:aF)) r=some (((w.fD.drop x).find? fun d=>decide (d.aa=room)).getD ⟨room,[]⟩):=by
  intro n
  induction n with
  | zero=>
   intro x hd hx
   obtain rfl:x=w.fD.length:=om
   refine ⟨.inl ((w.fD.length:Int),false),?_,by simp [fall]⟩
   refine El.step (fun _ _=>by rw [gZ.l0]) ?_
   exact El.cf sM (by simpa using El.pure)
  | succ n ih=>
   intro x hd hx
   have hx2:x<w.fD.length:=om
   have e1:aF.K.at w.fD (x:Int)=w.fD[x]:=by rw [DA _ _ default hx2,gD,gE hx2]; rfl
   rw [List.drop_eq_getElem_cons hx2,List.find?_cons]
   cases hq:decide (w.fD[x].aa=room) with
   | true=>
    refine ⟨.inr w.fD[x],?_,rfl⟩
    refine El.step (fun _ _=>by rw [gZ.l0]) ?_
    rw [e1]
    exact El.ct (by simpa using hx2) (El.aq ⟨om,om⟩ (El.ct hq (El.aq ⟨om,om⟩ El.pure)))
   | false=>
    obtain ⟨r,h1,h2⟩:=ih (x+1) om om
    refine ⟨r,?_,h2⟩
    refine El.step (fun _ _=>by rw [gZ.l0]) ?_
    rw [e1,aJ (x:=(x:Int)+1) om om]
    exact El.ct (by simpa using hx2) (El.aq ⟨om,om⟩ (El.cf hq h1))
 obtain ⟨r,h1,h2⟩:=key _ 0 rfl om
 exact Ev.bind h1.diag (Ev.of h2)
structure vQ (v:aH) (w:bq):Prop where
 KC:∀ d∈w.fD,∃ m,mget v.bx d.aa=some m∧Bz m d
 Jx:∀ room,(∀ d∈w.fD,d.aa≠room)→mget v.bx room=none
 nd:(w.fD.map (·.aa)).Nodup
 ndv:Nd v.bx
 tZ:rW (w.fD.map (·.aa))
 ne:∀ d∈w.fD,d.fL≠[]
theorem Fl:vQ ⟨[]⟩ ⟨[]⟩:=⟨fun d h=>(by cases h),fun _ _=>rfl,List.nodup_nil,w6,List.Pairwise.nil,fun d h=>(by cases h)⟩
theorem oU {v:aH} {w:bq} (hr:vQ v w) (room:BA):∃ m,aO.f v room=some m∧Bz m (lv w room)∧(∀ x,mget v.bx room=some x→x=m):=by
 unfold aO.f lv
 cases h:w.fD.find? fun d=>decide (d.aa=room) with
 | none=>
  have h1:mget v.bx room=none:=hr.Jx room fun d hd=>by simpa using List.find?_eq_none.1 h d hd
  rw [h1]
  exact ⟨_,rfl,E0 room,fun x hx=>by cases hx⟩
 | some d=>
  obtain ⟨m,h1,h2⟩:=hr.KC d (List.mem_of_find?_eq_some h)
  have h3:d.aa=room:=by simpa using List.find?_some h
  rw [h3] at h1
  rw [h1]
  exact ⟨m,rfl,h2,fun x hx=>(Option.some.inj hx).symm⟩
theorem FY {w:bq} {e:Event} {t:aF×Int} (hl:w.fD.length≤100000):∀ n x:Nat,w.fD.length-x=n→x≤w.fD.length→∀ (dn:Bool) (out:List aF),out.length≤2*x→
  ∃ r:Bool×Int×Bool×List aF,El (fun k j=>er.l0 k w e t j dn (x:Int) out) r∧(dn=true→r.1=true)∧r.2.2.2.length≤2*w.fD.length∧
   r.2.2.2.Perm ((if dn=false∧r.1=true then [t.1] else [])++(out++(w.fD.drop x).filter fun d=>!decide (d.aa=e.aa))):=by
 intro n
 induction n with
 | zero=>
  intro x hd hx dn out ho
  obtain rfl:x=w.fD.length:=om
  refine ⟨(dn,(w.fD.length:Int),false,out),?_,fun h=>h,ho,?_⟩
  ·refine El.step (fun _ _=>by rw [er.l0]) ?_
   exact El.cf sM (by simpa using El.pure)
  ·cases dn <;> simp
 | succ n ih=>
  intro x hd hx dn out ho
  have hx2:x<w.fD.length:=om
  have e1:aF.K.at w.fD (x:Int)=w.fD[x]:=by rw [DA _ _ default hx2,gD,gE hx2]; rfl
  obtain ⟨pt,hpt⟩:∃ pt:Bool,pt=(!dn && !dH (w.fD[x].aa) e.aa):=⟨_,rfl⟩
  obtain ⟨b,hb⟩:∃ b:Bool,El (fun (k j:Nat)=>cond (!dn) (aq ((0:Int)≤(x:Int)∧(x:Int)<(w.fD.length:Int)) (cond (!dH (w.fD[x].aa) e.aa) (aq (out.length+([t.1]:List aF).length≤9223372036854775807∧(out.length+([t.1]:List aF).length)*40≤140737488355328) (some (true,!dH (w.fD[x].aa) e.aa,out++([t.1]:List aF)))) (some (dn,!dH (w.fD[x].aa) e.aa,out)))) (some (dn,false,out))) (dn||pt,b,if pt then out++[t.1] else out):=by
   cases dn with
   | true=>exact ⟨false,by rw [hpt]; exact El.cf rfl El.pure⟩
   | false=>
    cases hs:dH (w.fD[x].aa) e.aa with
    | true=>exact ⟨false,by rw [hpt,hs]; exact El.ct rfl (El.aq ⟨om,om⟩ (El.cf rfl El.pure))⟩
    | false=>exact ⟨true,by rw [hpt,hs]; exact El.ct rfl (El.aq ⟨om,om⟩ (El.ct rfl (El.aq ⟨by simp; omega,by simp; omega⟩ El.pure)))⟩
  have hol:(if pt then out++[t.1] else out).length≤2*x+1:=by cases pt <;> simp <;> omega
  have hstep:∀ {r},El (fun k j=>cond (!decide ((w.fD[x].aa)=e.aa)) (aq ((0:Int)≤(x:Int)∧(x:Int)<(w.fD.length:Int)) (aq ((if pt then out++[t.1] else out).length+([w.fD[x]]:List aF).length≤9223372036854775807∧((if pt then out++[t.1] else out).length+([w.fD[x]]:List aF).length)*40≤140737488355328) (er.l0 k w e t j (dn||pt) (ax ((x:Int)+1)) ((if pt then out++[t.1] else out)++([w.fD[x]]:List aF))))) (er.l0 k w e t j (dn||pt) (ax ((x:Int)+1)) (if pt then out++[t.1] else out))) r→El (fun k j=>er.l0 k w e t j dn (x:Int) out) r:=fun h=>by
   refine El.step (fun _ _=>by rw [er.l0]) ?_
   rw [e1]
   exact El.ct (by simpa using hx2) (El.bind hb (El.aq ⟨om,om⟩ h))
  have hperm:∀ {r:Bool} {X:List aF} {tl:List aF},(dn=true→(dn||pt)=true)→((dn||pt)=true→r=true)→X.Perm ((if (dn||pt)=false∧r=true then [t.1] else [])++((if pt then out++[t.1] else out)++tl))→X.Perm ((if dn=false∧r=true then [t.1] else [])++(out++tl)):=fun {r X tl} _ hmono hX=>by
   cases dn with
   | true=>
        have:pt=false:=by rw [hpt]; rfl
        subst this; simpa using hX
   | false=>
    cases pt with
    | false=>simpa using hX
    | true=>
     have:r=true:=hmono rfl
     subst this
     simp only [Bool.or_true,Bool.true_eq_false,false_and,if_false,if_true,List.nil_append,and_self,List.singleton_append] at hX ⊢
     refine hX.trans ?_
     rw [List.append_assoc]
     exact List.perm_middle
  rw [List.drop_eq_getElem_cons hx2,List.filter_cons]
  cases hq:decide (w.fD[x].aa=e.aa) with
  | true=>
   obtain ⟨r,h1,h2,h3,h4⟩:=ih (x+1) om om (dn||pt) (if pt then out++[t.1] else out) om
   refine ⟨r,hstep (El.cf (by rw [hq]; rfl) ?_),fun h=>h2 (by rw [h]; rfl),h3,?_⟩
   ·rw [aJ (x:=(x:Int)+1) om om]; exact h1
   ·simpa using hperm (fun h=>by rw [h]; rfl) h2 h4
  | false=>
   obtain ⟨r,h1,h2,h3,h4⟩:=ih (x+1) om om (dn||pt) ((if pt then out++[t.1] else out)++[w.fD[x]]) (by rw [List.length_append]; simp; omega)
   refine ⟨r,hstep (El.ct (by rw [hq]; rfl) (El.aq ⟨om,om⟩ (El.aq ⟨by simp only [List.length_singleton]; omega,by simp only [List.length_singleton]; omega⟩ ?_))),fun h=>h2 (by rw [h]; rfl),h3,?_⟩
   ·rw [aJ (x:=(x:Int)+1) om om]; exact h1
   ·have:=hperm (X:=r.2.2.2) (r:=r.1) (tl:=w.fD[x]::(w.fD.drop (x+1)).filter fun d=>!decide (d.aa=e.aa)) (fun h=>by rw [h]; rfl) h2 (by rw [List.append_assoc] at h4; simpa using h4)
    simpa using this
theorem HT {w:bq} {e:Event} {t:aF×Int} (ht:t.1.aa=e.aa) (hl:w.fD.length≤100000):∀ n x:Nat,w.fD.length-x=n→x≤w.fD.length→∀ (dn:Bool) (out:List aF),out.length≤2*x→
  ∃ r:Bool×Int×Bool×List aF,El (fun k j=>er.l0 k w e t j dn (x:Int) out) r∧(if r.1=true then r.2.2.2 else r.2.2.2++[t.1]).map (·.aa)=out.map (·.aa)++putG e.aa dn ((w.fD.drop x).map (·.aa)):=by
 intro n
 induction n with
 | zero=>
  intro x hd hx dn out ho
  obtain rfl:x=w.fD.length:=om
  refine ⟨(dn,(w.fD.length:Int),false,out),?_,?_⟩
  ·refine El.step (fun _ _=>by rw [er.l0]) ?_
   exact El.cf sM (by simpa using El.pure)
  ·rw [List.drop_length]
   cases dn <;> simp [putG,ht]
 | succ n ih=>
  intro x hd hx dn out ho
  have hx2:x<w.fD.length:=om
  have e1:aF.K.at w.fD (x:Int)=w.fD[x]:=by rw [DA _ _ default hx2,gD,gE hx2]; rfl
  obtain ⟨pt,hpt⟩:∃ pt:Bool,pt=(!dn && !dH (w.fD[x].aa) e.aa):=⟨_,rfl⟩
  obtain ⟨b,hb⟩:∃ b:Bool,El (fun (k j:Nat)=>cond (!dn) (aq ((0:Int)≤(x:Int)∧(x:Int)<(w.fD.length:Int)) (cond (!dH (w.fD[x].aa) e.aa) (aq (out.length+([t.1]:List aF).length≤9223372036854775807∧(out.length+([t.1]:List aF).length)*40≤140737488355328) (some (true,!dH (w.fD[x].aa) e.aa,out++([t.1]:List aF)))) (some (dn,!dH (w.fD[x].aa) e.aa,out)))) (some (dn,false,out))) (dn||pt,b,if pt then out++[t.1] else out):=by
   cases dn with
   | true=>exact ⟨false,by rw [hpt]; exact El.cf rfl El.pure⟩
   | false=>
    cases hs:dH (w.fD[x].aa) e.aa with
    | true=>exact ⟨false,by rw [hpt,hs]; exact El.ct rfl (El.aq ⟨om,om⟩ (El.cf rfl El.pure))⟩
    | false=>exact ⟨true,by rw [hpt,hs]; exact El.ct rfl (El.aq ⟨om,om⟩ (El.ct rfl (El.aq ⟨by simp; omega,by simp; omega⟩ El.pure)))⟩
  have hol:(if pt then out++[t.1] else out).length≤2*x+1:=by cases pt <;> simp <;> omega
  have hstep:∀ {r},El (fun k j=>cond (!decide ((w.fD[x].aa)=e.aa)) (aq ((0:Int)≤(x:Int)∧(x:Int)<(w.fD.length:Int)) (aq ((if pt then out++[t.1] else out).length+([w.fD[x]]:List aF).length≤9223372036854775807∧((if pt then out++[t.1] else out).length+([w.fD[x]]:List aF).length)*40≤140737488355328) (er.l0 k w e t j (dn||pt) (ax ((x:Int)+1)) ((if pt then out++[t.1] else out)++([w.fD[x]]:List aF))))) (er.l0 k w e t j (dn||pt) (ax ((x:Int)+1)) (if pt then out++[t.1] else out))) r→El (fun k j=>er.l0 k w e t j dn (x:Int) out) r:=fun h=>by
   refine El.step (fun _ _=>by rw [er.l0]) ?_
   rw [e1]
   exact El.ct (by simpa using hx2) (El.bind hb (El.aq ⟨om,om⟩ h))
  have hdn:(dn||pt)=(dn || !dH (w.fD[x].aa) e.aa):=by rw [hpt]; cases dn <;> rfl
  have hout:(if pt then out++[t.1] else out).map (·.aa)=out.map (·.aa)++(if (!dn && !dH (w.fD[x].aa) e.aa) then [e.aa] else []):=by
   rw [← hpt]; cases pt <;> simp [ht]
  rw [List.drop_eq_getElem_cons hx2,List.map_cons]
  cases hq:decide (w.fD[x].aa=e.aa) with
  | true=>
   obtain ⟨r,h1,h2⟩:=ih (x+1) om om (dn||pt) (if pt then out++[t.1] else out) om
   refine ⟨r,hstep (El.cf (by rw [hq]; rfl) ?_),?_⟩
   ·rw [aJ (x:=(x:Int)+1) om om]; exact h1
   ·rw [h2,hout,hdn,List.append_assoc]
    congr 1
    simp only [putG,if_pos (of_decide_eq_true hq),List.nil_append]
  | false=>
   obtain ⟨r,h1,h2⟩:=ih (x+1) om om (dn||pt) ((if pt then out++[t.1] else out)++[w.fD[x]]) (by rw [List.length_append]; simp; omega)
   refine ⟨r,hstep (El.ct (by rw [hq]; rfl) (El.aq ⟨om,om⟩ (El.aq ⟨by simp only [List.length_singleton]; omega,by simp only [List.length_singleton]; omega⟩ ?_))),?_⟩
   ·rw [aJ (x:=(x:Int)+1) om om]; exact h1
   ·rw [h2,List.map_append,hout,hdn,List.append_assoc,List.append_assoc]
    congr 1
    simp only [putG,if_neg (of_decide_eq_false hq),List.map_cons,List.map_nil]
theorem G6 {w:bq} {e:Event} (he:Event.ok e) (hl:w.fD.length≤100000) (hd:(lv w e.aa).fL.length≤100000):
  ∃ w',Ev (fun k=>er.f k w e) (w',code (lv w e.aa) e)∧(code (lv w e.aa) e≠0→w'=w)∧
   (code (lv w e.aa) e=0→w'.fD.Perm (⟨e.aa,(lv w e.aa).fL++[e]⟩::w.fD.filter fun d=>!decide (d.aa=e.aa))∧w'.fD.map (·.aa)=putG e.aa false (w.fD.map (·.aa))):=by
 unfold er.f
 by_cases hc:code (lv w e.aa) e=0
 ·have h1:=Br he hd
  rw [if_pos hc,yV] at h1
  obtain ⟨r,l1,l2,l3,l4⟩:=FY (w:=w) (e:=e) (t:=((⟨e.aa,(lv w e.aa).fL++[e]⟩:aF),0)) hl _ 0 rfl om false [] sM
  obtain ⟨r',l1',l5⟩:=HT (w:=w) (e:=e) (t:=((⟨e.aa,(lv w e.aa).fL++[e]⟩:aF),0)) rfl hl _ 0 rfl om false [] sM
  have hrr:r'=r:=Ev.uniq l1'.diag l1.diag
  subst hrr
  rw [List.drop_zero,List.map_nil,List.nil_append] at l5
  rw [hc]
  cases hr:r'.1 with
  | false=>
   refine ⟨⟨r'.2.2.2++[(⟨e.aa,(lv w e.aa).fL++[e]⟩:aF)]⟩,Ev.bind (sJ hl) (Ev.bind h1 (Ev.cf rfl (Ev.bind l1.diag (Ev.ct (by rw [hr]; rfl) (Ev.aq ⟨by simp; omega,by simp; omega⟩ Ev.pure))))),fun h=>absurd rfl h,fun _=>?_⟩
   rw [hr] at l4 l5
   simp at l4
   exact ⟨(List.perm_append_comm).trans (l4.cons _),l5⟩
  | true=>
   refine ⟨⟨r'.2.2.2⟩,Ev.bind (sJ hl) (Ev.bind h1 (Ev.cf rfl (Ev.bind l1.diag (Ev.cf (by rw [hr]; rfl) Ev.pure)))),fun h=>absurd rfl h,fun _=>?_⟩
   rw [hr] at l4 l5
   exact ⟨by simpa using l4,l5⟩
 ·have h1:=Br he hd
  rw [if_neg hc] at h1
  exact ⟨w,Ev.bind (sJ hl) (Ev.bind h1 (Ev.ct (by simpa using hc) Ev.pure)),fun _=>rfl,fun h=>absurd h hc⟩
theorem Dr {l l':List aF} {room:BA} (hp:l.Perm l') (hn:(l.map (·.aa)).Nodup):(l.find? fun d=>decide (d.aa=room))=l'.find? fun d=>decide (d.aa=room):=by
 have hn':(l'.map (·.aa)).Nodup:=(hp.map _).nodup_iff.1 hn
 have one:∀ {l:List aF},(l.map (·.aa)).Nodup→∀ {x y},x∈l→y∈l→x.aa=y.aa→x=y:=fun {l} hn x y hx hy e=>by
  induction l with
  | nil=>cases hx
  | cons a l ih=>
   rw [List.map_cons,List.nodup_cons] at hn
   rcases List.mem_cons.1 hx with h1 | h1 <;> rcases List.mem_cons.1 hy with h2 | h2
   ·rw [h1,h2]
   ·exact absurd (List.mem_map.2 ⟨y,h2,by rw [← h1]; exact e.symm⟩) hn.1
   ·exact absurd (List.mem_map.2 ⟨x,h1,by rw [← h2]; exact e⟩) hn.1
   ·exact ih hn.2 h1 h2
 cases h:l.find? fun d=>decide (d.aa=room) with
 | none=>
  symm
  rw [List.find?_eq_none] at h ⊢
  exact fun x hx=>h x (hp.mem_iff.2 hx)
 | some d=>
  cases h':l'.find? fun d=>decide (d.aa=room) with
  | none=>rw [List.find?_eq_none] at h'; exact absurd (List.find?_some h) (h' d (hp.mem_iff.1 (List.mem_of_find?_eq_some h)))
  | some d'=>
   have a:d.aa=room:=by simpa using List.find?_some h
   have b:d'.aa=room:=by simpa using List.find?_some h'
   rw [one hn (List.mem_of_find?_eq_some h) (hp.mem_iff.2 (List.mem_of_find?_eq_some h')) (a.trans b.symm)]
theorem HB {w w':bq} {d:aF} (hn:(w.fD.map (·.aa)).Nodup) (hp:w'.fD.Perm (d::w.fD.filter fun x=>!decide (x.aa=d.aa))):(w'.fD.map (·.aa)).Nodup∧∀ room,lv w' room=if room=d.aa then d else lv w room:=by
 have hn2:((d::w.fD.filter fun x=>!decide (x.aa=d.aa)).map (·.aa)).Nodup:=by
  rw [List.map_cons,List.nodup_cons]
  refine ⟨fun h=>?_,(hn.sublist ((List.filter_sublist ..).map _))⟩
  obtain ⟨x,hx,e⟩:=List.mem_map.1 h
  simp at hx; exact hx.2 e
 have hn3:=(hp.map (·.aa)).nodup_iff.2 hn2
 refine ⟨hn3,fun room=>?_⟩
 unfold lv
 rw [Dr hp hn3,List.find?_cons]
 by_cases h:room=d.aa
 ·rw [if_pos h,dT h.symm]; rfl
 ·rw [if_neg h,dF (fun e=>h e.symm)]
  have key:((w.fD.filter fun x=>!decide (x.aa=d.aa)).find? fun d=>decide (d.aa=room))=w.fD.find? fun d=>decide (d.aa=room):=by
   rw [List.find?_filter]
   congr 1
   funext x
   by_cases hx:x.aa=room
   ·have:¬ x.aa=d.aa:=fun e=>h (hx.symm.trans e)
    simp [hx]; exact h
   ·simp [hx]
  show (((w.fD.filter fun x=>!decide (x.aa=d.aa)).find? fun d=>decide (d.aa=room))).getD _=_
  rw [key]
theorem GK {v:aH} {w:bq} {e:Event} (hr:vQ v w) (he:Event.ok e) (hl:w.fD.length≤100000) (hd:(lv w e.aa).fL.length≤100000):
  ∃ v' w',Ev (fun k=>iK.f k v e) (code (lv w e.aa) e,v')∧Ev (fun k=>er.f k w e) (w',code (lv w e.aa) e)∧vQ v' w'∧
   (code (lv w e.aa) e≠0→w'=w∧v'=v)∧(code (lv w e.aa) e=0→(∀ room,lv w' room=if room=e.aa then ⟨e.aa,(lv w e.aa).fL++[e]⟩ else lv w room)∧w'.fD.length≤w.fD.length+1):=by
 obtain ⟨w',r1,r2,r3⟩:=G6 he hl hd
 obtain ⟨m,v1,v2,v3⟩:=oU hr e.aa
 obtain ⟨m',a1,a2,a3⟩:=It v2 he hd
 unfold iK.f
 by_cases hc:code (lv w e.aa) e=0
 ·obtain ⟨hp,hpS⟩:=r3 hc
  obtain ⟨n1,n2⟩:=HB (d:=⟨e.aa,(lv w e.aa).fL++[e]⟩) hr.nd hp
  refine ⟨⟨mput v.bx e.aa m'⟩,w',?_,r1,⟨fun d hdm=>?_,fun room hroom=>?_,n1,se hr.ndv,by rw [hpS]; exact qZ hr.tZ,fun d hdm=>by
   rcases List.mem_cons.1 (hp.mem_iff.1 hdm) with rfl | hdm
   ·simp
   ·exact hr.ne d (List.mem_filter.1 hdm).1⟩,fun h=>absurd hc h,fun _=>⟨n2,?_⟩⟩
  ·rw [hc] at a1 ⊢
   exact Ev.bind (Ev.of v1) (Ev.bind a1 (Ev.cf rfl Ev.pure))
  ·rcases List.mem_cons.1 (hp.mem_iff.1 hdm) with rfl | hdm
   ·refine ⟨m',by simp only [fz,if_true],?_⟩
    have:=a3 hc
    rwa [yV] at this
   ·simp at hdm
    obtain ⟨m2,q1,q2⟩:=hr.KC d hdm.1
    exact ⟨m2,by simp only [fz,if_neg (fun e=>hdm.2 e.symm:¬ e.aa=d.aa)]; exact q1,q2⟩
  ·have h1:e.aa≠room:=hroom _ (hp.mem_iff.2 (List.mem_cons_self ..))
   simp only [fz,if_neg h1]
   refine hr.Jx room fun d hdm hdr=>?_
   by_cases h2:d.aa=e.aa
   ·exact h1 (h2.symm.trans hdr)
   ·exact hroom d (hp.mem_iff.2 (List.mem_cons_of_mem _ (by simp [hdm,h2]))) hdr
  ·rw [hp.length_eq,List.length_cons]
   have:=List.length_filter_le (fun d=>!decide (d.aa=e.aa)) w.fD
   exact Nat.succ_le_succ this
 ·obtain rfl:=r2 hc
  refine ⟨v,w',?_,r1,hr,fun _=>⟨rfl,rfl⟩,fun h=>absurd h hc⟩
  have:=a2 hc
  subst this
  refine Ev.bind (Ev.of v1) (Ev.bind a1 (Ev.ct (by simpa using hc) (Ev.of ?_)))
  have:vK v.bx e.aa m'=v.bx:=wM v3
  rw [this]
def Gv (n:Int):Prop:=-9223372036854775808≤n∧n≤9223372036854775807
theorem gH {n m:Int} (hn:Gv n) (h0:0<m) (hm:m≤9223372036854775807):∃ r,br.f n m=some r∧0≤r∧r<m:=by
 obtain ⟨h1,h2⟩:=hn
 unfold br.f
 have hne:m≠0:=om
 by_cases h:n<0
 ·rw [dT h,aJ (x:=n+1) om om,aJ om om]
  refine ⟨(0-(n+1)).tmod m,by simp only [cond_true,aq,if_pos hne],?_⟩
  rw [Int.tmod_eq_emod_of_nonneg om]
  exact ⟨Int.emod_nonneg _ hne,Int.emod_lt_of_pos _ h0⟩
 ·rw [dF h]
  refine ⟨n.tmod m,by simp only [cond_false,aq,if_pos hne],?_⟩
  rw [Int.tmod_eq_emod_of_nonneg om]
  exact ⟨Int.emod_nonneg _ hne,Int.emod_lt_of_pos _ h0⟩
def iL:List BA:=[⟨#[33,114,58,115,49]⟩,⟨#[33,113,58,115,50]⟩]
def lQ:List BA:=[⟨#[64,97,58,115,49]⟩,⟨#[64,97,58,115,50]⟩,⟨#[64,97,58,115,51]⟩,⟨#[64,98,58,115,49]⟩,⟨#[64,98,58,115,50]⟩,⟨#[64,98,58,115,51]⟩,⟨#[64,99,58,115,49]⟩,⟨#[64,99,58,115,50]⟩,⟨#[64,99,58,115,51]⟩]
theorem int_lt {r:Int} {n:Nat} (h0:0≤r) (h1:r<n):∃ k:Nat,k<n∧r=(k:Int):=⟨r.toNat,om,om⟩
theorem DK {n:Int} (hn:Gv n):∃ r,eS.f n=some r∧r∈iL:=by
 obtain ⟨m,h1,h2,h3⟩:=gH (m:=2) hn dc dc
 unfold eS.f
 rw [h1]
 obtain ⟨k,hk,rfl⟩:=int_lt (n:=2) h2 h3
 have:∀ k:Nat,k<2→∃ r,((some (k:Int)).bind fun t340=>aq ((0:Int)≤t340∧t340<(([(⟨#[33,114,58,115,49]⟩:BA),(⟨#[33,113,58,115,50]⟩:BA)]:List BA).length:Int)) (some (aC.at ([(⟨#[33,114,58,115,49]⟩:BA),(⟨#[33,113,58,115,50]⟩:BA)]:List BA) t340)))=some r∧r∈iL:=by
  intro k hk
  match k,hk with
  | 0,_=>exact ⟨_,rfl,List.mem_of_getElem? (i:=0) rfl⟩
  | 1,_=>exact ⟨_,rfl,List.mem_of_getElem? (i:=1) rfl⟩
 exact this k hk
theorem Dl:∀ k:Nat,k<9→∃ r,gQ.f (k:Int)=some r∧lQ[k]? = some r:=by
 intro k hk
 match k,hk with
 | 0,_=>exact ⟨_,rfl,rfl⟩
 | 1,_=>exact ⟨_,rfl,rfl⟩
 | 2,_=>exact ⟨_,rfl,rfl⟩
 | 3,_=>exact ⟨_,rfl,rfl⟩
 | 4,_=>exact ⟨_,rfl,rfl⟩
 | 5,_=>exact ⟨_,rfl,rfl⟩
 | 6,_=>exact ⟨_,rfl,rfl⟩
 | 7,_=>exact ⟨_,rfl,rfl⟩
 | 8,_=>exact ⟨_,rfl,rfl⟩
theorem rH {k m:Nat} (h:k<m) (hm:0<m):br.f (k:Int) (m:Int)=some (k:Int):=by
 unfold br.f
 have:¬ ((k:Int)<0):=om
 have hne:(m:Int)≠0:=om
 rw [dF this]
 simp only [cond_false,aq,if_pos hne]
 rw [Int.tmod_eq_emod_of_nonneg om,Int.emod_eq_of_lt om om]
theorem sG {n:Int} (hn:Gv n):∃ r,gQ.f n=some r∧r∈lQ:=by
 obtain ⟨m,h1,h2,h3⟩:=gH (m:=9) hn dc dc
 obtain ⟨k,hk,rfl⟩:=int_lt (n:=9) h2 h3
 obtain ⟨r,hr,hu⟩:=Dl k hk
 refine ⟨r,?_,List.mem_of_getElem? hu⟩
 rw [← hr]
 unfold gQ.f
 rw [h1,show (9:Int)=((9:Nat):Int) from rfl,rH hk dc]
theorem lV {n:Int} (h:(Lit.int .i64 n).wf=true):Gv n:=by
 have h':IntKind.i64.min≤n∧n≤9223372036854775807:=by simpa [Lit.wf] using h
 have e:IntKind.i64.min = -9223372036854775808:=dc
 unfold Gv
 omega
def mJ (k:Nat):BA:=⟨#[36,101,UInt8.ofNat (48+k)]⟩
theorem vD:∀ k,k<9→jP (mJ k)=true:=fun k hk=>by
 have h:(List.range 9).all (fun k=>jP (mJ k))=true:=kr
 exact List.all_eq_true.1 h k (List.mem_range.2 hk)
theorem E7 {j k:Nat} (h:j<k) (hk:k<9):dH (mJ j) (mJ k)=true:=by
 have h2:(List.range 9).all (fun k=>(List.range k).all fun j=>dH (mJ j) (mJ k))=true:=kr
 exact List.all_eq_true.1 (List.all_eq_true.1 h2 k (List.mem_range.2 hk)) j (List.mem_range.2 h)
theorem xu {j k:Nat} (h:j<k) (hk:k<9):mJ j≠mJ k:=Bi (E7 h hk)
theorem Cr {j k:Nat} (hj:j<9) (hk:k<9) (h:mJ j=mJ k):j=k:=by
 rcases Nat.lt_trichotomy j k with h1 | h1 | h1
 ·exact absurd h (xu h1 hk)
 ·exact h1
 ·exact absurd h.symm (xu h1 hj)
theorem pM (k:Nat):(mJ k).size≤maxLen:=by show (3:Nat)≤9223372036854775807; omega
theorem GB (k:Nat):mJ k≠⟨#[]⟩:=fun h=>by
 have:=congrArg (fun s:BA=>s.size) h
 exact absurd this (by show ¬ (3:Nat)=0; decide)
theorem jw:∀ k:Nat,k<9→Ev (fun n=>dq.f n (k:Int)) (mJ k):=by
 intro k hk
 refine Ev.add 2 fun m=>?_
 match k,hk with
 | 0,_=>rfl
 | 1,_=>rfl
 | 2,_=>rfl
 | 3,_=>rfl
 | 4,_=>rfl
 | 5,_=>rfl
 | 6,_=>rfl
 | 7,_=>rfl
 | 8,_=>rfl
theorem roomB {r:BA} (h:r∈iL):dj r 33=true:=by
 have h2:iL.all (fun r=>dj r 33)=true:=kr
 exact List.all_eq_true.1 h2 r h
theorem userB {r:BA} (h:r∈lQ):dj r 64=true:=by
 have h2:lQ.all (fun r=>dj r 64)=true:=kr
 exact List.all_eq_true.1 h2 r h
theorem Dd {r:BA} (h:r∈iL):r.size≤maxLen:=by
 have h2:iL.all (fun r=>decide (r.size≤10))=true:=kr
 have:=of_decide_eq_true (List.all_eq_true.1 h2 r h)
 show _≤9223372036854775807; omega
theorem De {r:BA} (h:r∈lQ):r.size≤maxLen:=by
 have h2:lQ.all (fun r=>decide (r.size≤10))=true:=kr
 have:=of_decide_eq_true (List.all_eq_true.1 h2 r h)
 show _≤9223372036854775807; omega
theorem Gm {l S:List Nat} (hn:l.Nodup) (hs:∀ x∈l,x∈S):l.length≤S.length:=by
 induction l generalizing S with
 | nil=>simp
 | cons a l ih=>
  rw [List.nodup_cons] at hn
  have ha:=hs a (List.mem_cons_self ..)
  have h1:=ih (S:=S.erase a) hn.2 fun x hx=>(List.mem_erase_of_ne fun e=>hn.1 (by rw [← e]; exact hx)).2 (hs x (List.mem_cons_of_mem _ hx))
  rw [List.length_erase_of_mem ha] at h1
  have:=List.length_pos_of_mem ha
  simp only [List.length_cons]; omega
structure MI (room:BA) (L:List Event):Prop where
 len:L.length≤9
 ids:∀ k,k<L.length→(ev L k).b9=mJ k
theorem IT {room:BA} {L:List Event} (h:MI room L) {k:Nat} (hk:k<L.length):ix L (mJ k)=(k:Int):=by
 have hl:=h.len
 rcases mO L (mJ k) with ⟨_,q⟩ | ⟨j,q,hj,he⟩
 ·exact absurd (h.ids k hk) (q k hk)
 ·rw [h.ids j hj] at he
  rw [q,Cr om om he]
theorem JD {room:BA} {L:List Event} (h:MI room L) (hl:L.length<9):ix L (mJ L.length) = -1:=by
 rcases mO L (mJ L.length) with ⟨q,_⟩ | ⟨j,q,hj,he⟩
 ·exact q
 ·rw [h.ids j hj] at he
  exact absurd (Cr om hl he) om
theorem Ds {room user th:BA} {L:List Event} {ks:List Nat} {lr:Int} (h:MI room L) (hl:L.length<9) (hr:room∈iL) (hu:user∈lQ) (hk:∀ k∈ks,k<L.length) (hs:ks.Pairwise (· < ·)) (h4:ks.length≤3) (hd:0≤lr∧lr<3)
  (ht:th=⟨#[]⟩∨(lr=0∧∃ t,t<L.length∧th=mJ t∧(ev L t).bL=0∧(ev L t).ag=⟨#[]⟩)):code ⟨room,L⟩ ⟨mJ L.length,room,ks.map mJ,th,user,lr⟩=0:=by
 have hpar:∀ i,(hi:i<ks.length)→par ⟨mJ L.length,room,ks.map mJ,th,user,lr⟩ i=mJ ks[i]:=fun i hi=>by
  unfold par
  rw [gD,List.getElem?_map,gE hi]; rfl
 have hmay:o4 ⟨mJ L.length,room,ks.map mJ,th,user,lr⟩=true:=by
  unfold o4
  simp only [vD _ hl,roomB hr,userB hu,Bool.true_and,List.length_map,Bool.and_eq_true,decide_eq_true_eq,kc]
  refine ⟨om,hd.1,om,?_,fun i _ hi=>?_⟩
  ·unfold vR
   rcases ht with ht | ⟨h0,t,h1,h2,_⟩
   ·simp [ht]
   ·simp only [h2,vD t om,h0,Bool.true_and,decide_true,Bool.and_true,Bool.or_eq_true,Bool.not_eq_true',decide_eq_false_iff_not]
    exact .inr (xu h1 hl)
  ·unfold rX
   rw [hpar i hi]
   have hki:=hk _ (List.getElem_mem hi)
   simp only [vD _ (show ks[i]<9 by omega),Bool.true_and,Bool.and_eq_true,Bool.not_eq_true',decide_eq_false_iff_not,Bool.or_eq_true,decide_eq_true_eq]
   refine ⟨xu hki hl,?_⟩
   by_cases h0:i=0
   ·exact .inl h0
   ·right
    rw [hpar (i-1) om]
    exact E7 (List.pairwise_iff_getElem.1 hs (i-1) i om hi om) om
 unfold code
 rw [hmay]
 have hall:gS (fun i=>decide (0≤ix L (par ⟨mJ L.length,room,ks.map mJ,th,user,lr⟩ i))) 0 (ks.map mJ).length=true:=by
  rw [kc]
  intro i _ hi
  rw [List.length_map] at hi
  rw [hpar i hi,IT h (hk _ (List.getElem_mem hi))]
  simp
 simp only [Bool.true_eq_false,if_false,ne_eq,not_true_eq_false,JD h hl,hall]
 rw [if_neg om]
 rcases ht with ht | ⟨h0,t,h1,h2,h3,h5⟩
 ·simp [ht]
 ·rw [if_neg (by rw [h2]; exact GB t),h2,IT h h1,Int.toNat_natCast,h3,h5]
  simp
theorem Hl {room user th:BA} {n:Nat} {ks:List Nat} {lr:Int} (hr:room∈iL) (hu:user∈lQ) (h4:ks.length≤3) (hd:0≤lr∧lr<3) (ht:th=⟨#[]⟩∨∃ t,th=mJ t):Event.ok ⟨mJ n,room,ks.map mJ,th,user,lr⟩:=by
 refine ⟨pM _,Dd hr,⟨by rw [List.length_map]; show _≤9223372036854775807; omega,fun x hx=>?_⟩,?_,De hu,?_,trivial⟩
 ·obtain ⟨k,_,rfl⟩:=List.mem_map.1 hx; exact pM k
 ·rcases ht with rfl | ⟨t,rfl⟩
  ·show (0:Nat)≤9223372036854775807; omega
  ·exact pM t
 ·have:lr=0∨lr=1∨lr=2:=om
  rcases this with rfl | rfl | rfl <;> rfl
end Go.Proofs.YtfknmdelgepbjaaGreatDoor
