import Derived.Test.YtfknmdelgepbjaaGreatDoorZYA
import Derived.Test.YtfknmdelgepbjaaGreatDoorZPX
set_option linter.all false
set_option maxRecDepth 10000
namespace Go.Proofs.YtfknmdelgepbjaaGreatDoor
open Go Go.Sp
inductive Cx where
 | m (x:bB)
 | r (s:BA)
 | u (s:BA)
 deriving DecidableEq,Inhabited
def Cx.chg:Cx→kR
 | .m x=>⟨1,x,⟨#[]⟩⟩
 | .r s=>⟨2,⟨⟨#[]⟩,⟨#[]⟩,⟨#[]⟩,false⟩,s⟩
 | .u s=>⟨3,⟨⟨#[]⟩,⟨#[]⟩,⟨#[]⟩,false⟩,s⟩
def Cx.key:Cx→BA
 | .m x=>nS x
 | .r s=>DM s
 | .u s=>DW s
def Cx.dyn:Cx→jH
 | .m x=>.d89 x
 | .r s=>.d141 s
 | .u s=>.d143 s
def Cx.ok:Cx→Prop
 | .m x=>Kx x
 | .r s=>s∈iV
 | .u s=>s∈ma
theorem Cx.rr {c:Cx} (h:c.ok):kH.f c.chg=some c.key:=by
 cases c with
 | m x=>exact (BH h).2.1
 | r s=>exact (Aq s h).2.1
 | u s=>exact (AU s h).2.1
theorem Cx.of {c:Cx} (h:c.ok):Ev (fun k=>nv.f k c.key) c.dyn:=by
 cases c with
 | m x=>exact Ib h
 | r s=>exact HE s h
 | u s=>exact Ip s h
theorem Cx.inj {a b:Cx} (ha:a.ok) (hb:b.ok) (h:a.key=b.key):a=b:=by
 have h1:=Cx.of ha
 rw [h] at h1
 have h2:=h1.uniq (Cx.of hb)
 cases a <;> cases b <;> simp_all [Cx.dyn]
theorem GZ {α:Type} {P:List α→Prop} (h0:P []) (h1:∀ Y x,P Y→P (Y++[x])) (Z:List α):P Z:=by
 have:∀ n (Z:List α),Z.length=n→P Z:=by
  intro n
  induction n with
  | zero=>intro Z h; rw [List.length_eq_zero_iff.1 h]; exact h0
  | succ n ih=>
   intro Z h
   rcases List.eq_nil_or_concat Z with rfl | ⟨Y,x,rfl⟩
   ·exact h0
   ·rw [List.concat_eq_append] at h ⊢
    exact h1 Y x (ih Y (by simpa using h))
 exact this _ Z rfl
section
variable {α:Type} [DecidableEq α]
def iJ (Z:List α) (c:α):Nat:=(Z.foldl (fun (s:Nat×Nat) x=>(s.1+1,if x=c then s.1+1 else s.2)) (0,0)).2
theorem xq (c:α):∀ (Z:List α) (s:Nat×Nat),(Z.foldl (fun (s:Nat×Nat) x=>(s.1+1,if x=c then s.1+1 else s.2)) s).1=s.1+Z.length
 | [],s=>rfl
 | x::Z,s=>by rw [List.foldl_cons,xq c Z]; simp; omega
theorem iX (Z:List α) (x c:α):iJ (Z++[x]) c=if x=c then Z.length+1 else iJ Z c:=by
 unfold iJ
 rw [List.foldl_append,List.foldl_cons,List.foldl_nil]
 simp only [xq,Nat.zero_add]
theorem DU (c:α):iJ ([]:List α) c=0:=rfl
theorem E6 (c:α) (Z:List α):iJ Z c≤Z.length:=by
 induction Z using GZ with
 | h0=>exact Nat.le_refl _
 | h1 Y x ih=>
  rw [iX,List.length_append,List.length_singleton]
  split <;> omega
theorem DD (c:α) (Z:List α):0<iJ Z c↔c∈Z:=by
 induction Z using GZ with
 | h0=>simp [DU]
 | h1 Y x ih=>
  rw [iX,List.mem_append,List.mem_singleton]
  by_cases e:x=c
  ·rw [if_pos e]; exact ⟨fun _=>.inr e.symm,fun _=>om⟩
  ·rw [if_neg e,ih]; exact ⟨.inl,fun h=>h.elim id fun h=>absurd h.symm e⟩
end
theorem DE {Z:List Cx} (hz:∀ c∈Z,c.ok) {c:Cx} (hc:c.ok):iJ (Z.map Cx.key) c.key=iJ Z c:=by
 induction Z using GZ with
 | h0=>rfl
 | h1 Y x ih=>
  rw [List.map_append,List.map_cons,List.map_nil,iX,iX,ih (fun a h=>hz a (List.mem_append_left _ h)),List.length_map]
  by_cases e:x=c
  ·rw [if_pos e,if_pos (by rw [e])]
  ·rw [if_neg e,if_neg fun h=>e (Cx.inj (hz x sM) hc h)]
theorem B1 {l:List BA} {m:Nat} (h:m<l.length):aE.at l (m:Int)=l[m]:=by
 unfold Kd.at; rw [Int.toNat_natCast]; simp [h]
theorem Eh {K:List BA} {from_:Int} (hf:0≤from_∧from_≤1000000) (hl:K.length≤1000) (key:BA):Ev (fun k=>ni.f k K from_ key) (if iJ K key=0 then 0 else from_+(iJ K key:Int)):=by
 have loop:∀ m:Nat,m≤K.length→El (fun k j=>ni.l0 k K from_ key j ((m:Int)-1)) (if iJ (K.take m) key=0 then .inl (-1,false) else .inr (from_+(iJ (K.take m) key:Int))):=by
  intro m
  induction m with
  | zero=>
   intro _
   refine El.step (fun _ _=>by rw [ni.l0]) ?_
   rw [dF (by omega:¬ (0:Int)≤(((0:Nat):Int)-1))]
   exact El.pure
  | succ m ih=>
   intro hm
   have hm2:m<K.length:=om
   refine El.step (fun _ _=>by rw [ni.l0]) ?_
   rw [show (((m+1:Nat):Int)-1)=(m:Int) by omega]
   refine El.ct (dT om) (El.an ⟨om,om⟩ ?_)
   rw [B1 hm2,List.take_succ_eq_append_getElem hm2,iX,List.length_take,Nat.min_eq_left om]
   by_cases e:K[m]=key
   ·rw [if_pos e,if_neg om]
    refine El.ct (dT e) ?_
    rw [aI (x:=from_+1) om om,aI om om,show from_+1+(m:Int)=from_+((m+1:Nat):Int) by omega]
    exact El.pure
   ·rw [if_neg e]
    refine El.cf (dF e) ?_
    rw [aI om om]
    exact ih om
 have h:=loop K.length (Nat.le_refl _)
 rw [List.take_length] at h
 unfold ni.f
 rw [aI om om]
 by_cases e:iJ K key=0
 ·rw [if_pos e] at h ⊢
  exact Ev.bind h.diag (by simp only [fall]; exact Ev.pure)
 ·rw [if_neg e] at h ⊢
  exact Ev.bind h.diag (by simp only [fall]; exact Ev.pure)
theorem Fc {l:List kR} {m:Nat} (h:m<l.length):kR.K.at l (m:Int)=l[m]:=by
 unfold Kd.at; rw [Int.toNat_natCast]; simp [h]
theorem HT {Z:List Cx} (hz:∀ c∈Z,c.ok) (hl:Z.length≤1000):Ev (fun k=>lT.f k (Z.map Cx.chg)) (Z.map Cx.key):=by
 have loop:∀ n x:Nat,Z.length-x=n→x≤Z.length→El (fun k j=>lT.l0 k (Z.map Cx.chg) j (x:Int) ((Z.map Cx.key).take x)) ((Z.length:Int),false,Z.map Cx.key):=by
  intro n
  induction n with
  | zero=>
   intro x hd hx
   obtain rfl:x=Z.length:=om
   refine El.step (fun _ _=>by rw [lT.l0]) ?_
   rw [dF (by rw [List.length_map]; omega:¬ (Z.length:Int)<((Z.map Cx.chg).length:Int)),List.take_of_length_le sM]
   exact El.pure
  | succ n ih=>
   intro x hd hx
   have hx2:x<Z.length:=om
   have ih2:=ih (x+1) om om
   refine El.step (fun _ _=>by rw [lT.l0]) ?_
   rw [Fc (by simpa using hx2),List.getElem_map]
   have hk:=Cx.rr (hz Z[x] (List.getElem_mem hx2))
   refine El.ct (dT (by rw [List.length_map]; omega)) (El.an ⟨om,by rw [List.length_map]; omega⟩ (El.bind (Ev.of hk).el (El.an ?_ ?_)))
   ·rw [List.length_take,List.length_map,List.length_singleton]; omega
   ·rw [aI om om]
    rw [List.take_succ_eq_append_getElem (by simpa using hx2),List.getElem_map] at ih2
    exact ih2
 unfold lT.f
 exact Ev.bind (loop _ 0 rfl om).diag Ev.pure
theorem BT {s:dQ} {Z:List Cx} (hs:s.fL=Z.map Cx.chg) (hz:∀ c∈Z,c.ok) (hl:Z.length≤1000) (hf:0≤s.aV∧s.aV≤1000000) {n:Int} (hn:0≤n) {c:Cx} (hc:c.ok):Ev (fun k=>lF.f k s n c.key) (decide (c∈Z∧n<s.aV+(iJ Z c:Int))):=by
 unfold lF.f
 rw [hs]
 have h:=Eh (K:=Z.map Cx.key) hf (by simpa using hl) c.key
 rw [DE hz hc] at h
 refine Ev.bind (HT hz hl) (Ev.bind h (Ev.of ?_))
 congr 1
 have hp:=DD c Z
 rw [Bool.eq_iff_iff,decide_eq_true_iff,decide_eq_true_iff]
 by_cases e:iJ Z c=0
 ·rw [if_pos e]; exact ⟨fun h=>om,fun h=>by have:=hp.2 h.1; omega⟩
 ·rw [if_neg e]; exact ⟨fun h=>⟨hp.1 om,h⟩,fun h=>h.2⟩
structure Dr (d:cI) (Z:List Cx) (from_:Int):Prop where
 fr:0≤from_∧from_≤1000000
 at_:d.iS.fn.fv=from_+(Z.length:Int)
 F2:d.iS.dX=from_+1000
 ok:∀ c∈Z,c.ok
 keys:∃ Q:List Cx,d.eO=Q.map Cx.key∧Q.Pairwise (fun a b=>iJ Z a<iJ Z b)∧Q.length≤Z.length∧∀ c,c∈Q↔c∈Z
 pos:∀ c,c.ok→mget d.oo c.key=if c∈Z then some (from_+(iJ Z c:Int)) else none
theorem Gi {from_:Int} (h:0≤from_∧from_≤1000000):Dr ⟨⟨⟨from_⟩,from_+1000⟩,[],[]⟩ [] from_:=⟨h,sM,rfl,fun c h=>(by cases h),⟨[],rfl,List.Pairwise.nil,Nat.le_refl _,fun _=>Iff.rfl⟩,fun c _=>rfl⟩
theorem DN {k:BA}:∀ (B A:List BA),(∀ a∈A,a≠k)→(A++k::B).length≤1000→Ev (fun n=>bz.f n (A++k::B) k) (A.length:Int):=by
 intro B A hA hl
 have loop:∀ n x:Nat,A.length-x=n→x≤A.length→El (fun n j=>bz.l0 n (A++k::B) k j (x:Int)) (.inr (A.length:Int)):=by
  intro n
  induction n with
  | zero=>
   intro x hd hx
   obtain rfl:x=A.length:=om
   have hlt:A.length<(A++k::B).length:=sM
   refine El.step (fun _ _=>by rw [bz.l0]) ?_
   refine El.ct (dT om) (El.an ⟨om,om⟩ (El.ct (dT ?_) El.pure))
   rw [B1 hlt]; simp
  | succ n ih=>
   intro x hd hx
   have hlt:x<(A++k::B).length:=by simp; omega
   have hA2:x<A.length:=om
   refine El.step (fun _ _=>by rw [bz.l0]) ?_
   refine El.ct (dT om) (El.an ⟨om,om⟩ (El.cf (dF ?_) ?_))
   ·rw [B1 hlt,List.getElem_append_left hA2]; exact fun e=>hA _ (List.getElem_mem hA2) e.symm
   ·rw [aI om om]; exact ih (x+1) om om
 unfold bz.f
 exact Ev.bind (loop _ 0 rfl om).diag (by simp only [fall]; exact Ev.pure)
theorem v7 {d:cI} {Z:List Cx} {from_:Int} (h:Dr d Z from_) (hl:Z.length≤900) {c:Cx} (hc:c.ok):∃ d',Ev (fun k=>iw.f k d c.key) (from_+((Z.length+1:Nat):Int),0,d')∧Dr d' (Z++[c]) from_:=by
 obtain ⟨f1,f2⟩:=h.fr
 have hat:=h.at_
 have hmo:=h.F2
 have hn:Ev (fun k=>fG.f k d.iS) (from_+((Z.length+1:Nat):Int),0,⟨⟨from_+((Z.length+1:Nat):Int)⟩,d.iS.dX⟩):=by
  suffices ha:Ev (fun k=>clock_Counter_Add.f k d.iS 1) (from_+((Z.length+1:Nat):Int),0,⟨⟨from_+((Z.length+1:Nat):Int)⟩,d.iS.dX⟩) by
   unfold fG.f; exact Ev.bind ha Ev.pure
  unfold clock_Counter_Add.f
  refine Ev.cf rfl (Ev.add 1 fun m=>?_)
  rw [clock_Counter_Add.l0]
  have e1:(d.iS.fn.fv==d.iS.dX)=false:=by rw [beq_eq_false_iff_ne]; omega
  have e2:av (d.iS.dX-d.iS.fn.fv)=d.iS.dX-d.iS.fn.fv:=aI om om
  have e3:decide ((1:Int)<d.iS.dX-d.iS.fn.fv)=true:=by rw [decide_eq_true_iff]; omega
  have e4:av (d.iS.fn.fv+1)=from_+((Z.length+1:Nat):Int):=by rw [aI om om]; omega
  rw [show decide ((0:Int)<1)=true from rfl,e1,e2,e3,e4]
  rfl
 obtain ⟨Q,q1,q2,q3,q4⟩:=h.keys
 have hlt:∀ a∈Q,iJ (Z++[c]) a=if c=a then Z.length+1 else iJ Z a:=fun a _=>iX Z c a
 have mk:∀ Q':List Cx,Q'.Sublist Q→(∀ a,a∈Q'↔a∈Q∧a≠c)→Dr ⟨⟨⟨from_+((Z.length+1:Nat):Int)⟩,d.iS.dX⟩,Q'.map Cx.key++[c.key],mput d.oo c.key (from_+((Z.length+1:Nat):Int))⟩ (Z++[c]) from_:=fun Q' hs hm=>by
  refine ⟨h.fr,?_,h.F2,fun a ha=>?_,⟨Q'++[c],sM,?_,?_,fun a=>?_⟩,fun a ha=>?_⟩
  ·show from_+((Z.length+1:Nat):Int)=_; rw [List.length_append,List.length_singleton]
  ·rcases List.mem_append.1 ha with ha | ha
   ·exact h.ok a ha
   ·rw [List.mem_singleton.1 ha]; exact hc
  ·refine List.pairwise_append.2 ⟨(q2.sublist hs).imp_of_mem fun {a b} ha hb hab=>?_,List.pairwise_singleton _ _,fun a ha b hb=>?_⟩
   ·rw [iX,iX,if_neg fun e=>((hm a).1 ha).2 e.symm,if_neg fun e=>((hm b).1 hb).2 e.symm]; exact hab
   ·rw [List.mem_singleton.1 hb,iX,iX,if_neg fun e=>((hm a).1 ha).2 e.symm,if_pos rfl]
    have:=E6 a Z; omega
  ·have:=hs.length_le; rw [List.length_append,List.length_append,List.length_singleton]; simp; omega
  ·rw [List.mem_append,List.mem_append,hm,q4,List.mem_singleton]
   by_cases e:a=c <;> simp [e]
  ·show mget (mput _ _ _) _=_
   rw [fQ,iX]
   by_cases e:c=a
   ·subst e; rw [if_pos rfl,if_pos rfl,if_pos sM]
   ·rw [if_neg fun k=>e (Cx.inj hc ha k),h.pos a ha,if_neg e]
    by_cases k:a∈Z
    ·rw [if_pos k,if_pos (by simp [k])]
    ·rw [if_neg k,if_neg (by simp [k,Ne.symm e])]
 have hp:=h.pos c hc
 unfold iw.f
 by_cases hz:c∈Z
 ·rw [if_pos hz] at hp
  obtain ⟨A,B,hab⟩:=List.append_of_mem ((q4 c).2 hz)
  have hnd:∀ a∈A++B,a≠c:=fun a ha e=>by
   subst e
   rw [hab] at q2
   have q5:=List.pairwise_append.1 q2
   have q6:=List.pairwise_cons.1 q5.2.1
   rcases List.mem_append.1 ha with ha | ha
   ·have:=q5.2.2 a ha a List.mem_cons_self; omega
   ·have:=q6.1 a ha; omega
  have hQ:=mk (A++B) (by rw [hab]; exact List.Sublist.append (List.Sublist.refl _) (List.sublist_cons_self _ _)) fun a=>by
   rw [hab]; constructor
   ·exact fun ha=>⟨by rcases List.mem_append.1 ha with k | k <;> simp [k],hnd a ha⟩
   ·rintro ⟨ha,hne⟩; simp only [List.mem_append,List.mem_cons] at ha ⊢
    rcases ha with k | k | k
    ·exact .inl k
    ·exact absurd k hne
    ·exact .inr k
  have hi:Ev (fun n=>bz.f n d.eO c.key) (A.length:Int):=by
   have:=DN (k:=c.key) (B.map Cx.key) (A.map Cx.key) (fun a ha e=>by
    obtain ⟨x,x1,rfl⟩:=List.mem_map.1 ha
    have hxQ:x∈Q:=by rw [hab]; simp [x1]
    exact hnd x (List.mem_append_left _ x1) (Cx.inj (h.ok x ((q4 x).1 hxQ)) hc e)) (by rw [hab] at q3; simp at q3 ⊢; omega)
   rw [List.length_map] at this
   rw [q1,hab,List.map_append,List.map_cons]; exact this
  have hla:A.length<d.eO.length:=by rw [q1,hab]; simp
  have hd:dU.f d.eO (A.length:Int) (av ((A.length:Int)+1))=some ((A++B).map Cx.key):=by
   unfold dU.f
   have hq:d.eO.length=Q.length:=by rw [q1,List.length_map]
   rw [aI om om]
   unfold an
   rw [if_pos ⟨om,om,om⟩,q1,hab]
   rw [show ((A.length:Int)+1).toNat=A.length+1 by omega,Int.toNat_natCast,List.map_append,List.map_append,List.map_cons]
   congr 1
   have e1:A.length=(A.map Cx.key).length:=by rw [List.length_map]
   rw [e1,List.take_left,← List.drop_drop,List.drop_left]; rfl
  refine ⟨_,Ev.bind hn (Ev.cf rfl (Ev.bind (Ev.ct (by rw [hp]; rfl) (Ev.bind hi (Ev.bind (Ev.of hd) Ev.pure))) (Ev.an ?_ Ev.pure))),hQ⟩
  show ((A++B).map Cx.key).length+1≤_∧(((A++B).map Cx.key).length+1)*16≤_
  rw [List.length_map]
  have:(A++B).length≤Q.length:=by rw [hab]; simp
  omega
 ·rw [if_neg hz] at hp
  have hQ:=mk Q (List.Sublist.refl _) fun a=>⟨fun ha=>⟨ha,fun e=>hz ((q4 c).1 (e ▸ ha))⟩,And.left⟩
  rw [← q1] at hQ
  refine ⟨_,Ev.bind hn (Ev.cf rfl (Ev.bind (Ev.cf (by rw [hp]; rfl) Ev.pure) (Ev.an ?_ Ev.pure))),hQ⟩
  have hq:d.eO.length=Q.length:=by rw [q1,List.length_map]
  show d.eO.length+1≤_∧(d.eO.length+1)*16≤_; omega
theorem Gp {d:cI} {Z:List Cx} {from_:Int} (h:Dr d Z from_) (hl:Z.length≤900) (n:Int):∃ Y:List Cx,Ev (fun k=>cD.f k d n) (Y.map Cx.key)∧Y.Nodup∧Y.length≤Z.length∧∀ c,c∈Y↔(c∈Z∧n<from_+(iJ Z c:Int)):=by
 obtain ⟨Q,q1,q2,q3,q4⟩:=h.keys
 have hq:d.eO.length=Q.length:=by rw [q1,List.length_map]
 have loop:∀ x:Nat,x≤Q.length→(∀ c∈Q.drop x,n<from_+(iJ Z c:Int))→∃ (i:Nat) (b:Bool),i≤Q.length∧El (fun k j=>cD.l0 k d n j (x:Int)) ((i:Int),b)∧(∀ c∈Q.drop i,n<from_+(iJ Z c:Int))∧∀ c∈Q.take i,¬ n<from_+(iJ Z c:Int):=by
  intro x
  induction x with
  | zero=>
   intro _ hd
   refine ⟨0,false,om,El.step (fun _ _=>by rw [cD.l0]) ?_,hd,fun c hc=>(by simp at hc)⟩
   exact El.cf rfl El.pure
  | succ x ih=>
   intro hx hd
   have hx2:x<Q.length:=om
   have hg:(mget d.oo (d.eO.getD (av (((x+1:Nat):Int)-1)).toNat default)).getD 0=from_+(iJ Z Q[x]:Int):=by
    have hm:Q[x]∈Z:=(q4 _).1 (List.getElem_mem hx2)
    rw [aI om om,show (((x+1:Nat):Int)-1).toNat=x by omega,q1,gD,List.getElem?_map,gE hx2]
    show (mget d.oo (Q[x]).key).getD 0=_
    rw [h.pos _ (h.ok _ hm),if_pos hm]; rfl
   have hw:av (((x+1:Nat):Int)-1)=(x:Int):=by rw [aI om om]; omega
   by_cases hp:n<from_+(iJ Z Q[x]:Int)
   ·obtain ⟨i,b,i1,i2,i3,i4⟩:=ih om fun c hc=>by
     rw [List.drop_eq_getElem_cons hx2] at hc
     rcases List.mem_cons.1 hc with rfl | hc
     ·exact hp
     ·exact hd c hc
    refine ⟨i,b,i1,El.step (fun _ _=>by rw [cD.l0]) ?_,i3,i4⟩
    refine El.ct (dT om) (El.an ⟨by rw [hw]; omega,by rw [hw,hq]; omega⟩ (El.ct (by rw [hg]; exact dT hp) ?_))
    rw [hw]; exact i2
   ·refine ⟨x+1,false,hx,El.step (fun _ _=>by rw [cD.l0]) ?_,hd,fun c hc=>?_⟩
    ·refine El.ct (dT om) (El.an ⟨by rw [hw]; omega,by rw [hw,hq]; omega⟩ (El.cf (by rw [hg]; exact dF hp) ?_))
     rw [hg,dF hp]; exact El.pure
    ·rw [List.take_succ_eq_append_getElem hx2] at hc
     rcases List.mem_append.1 hc with hc | hc
     ·have hpw:iJ Z c<iJ Z Q[x]:=by
       have e:Q=Q.take x++Q[x]::Q.drop (x+1):=by rw [← List.drop_eq_getElem_cons hx2,List.take_append_drop]
       rw [e] at q2
       have:=(List.pairwise_append.1 q2).2.2 c hc
       exact this _ List.mem_cons_self
      omega
     ·rw [List.mem_singleton.1 hc]; exact hp
 obtain ⟨i,b,i1,i2,i3,i4⟩:=loop Q.length (Nat.le_refl _) fun c hc=>by simp at hc
 refine ⟨Q.drop i,?_,?_,?_,fun c=>?_⟩
 ·unfold cD.f
  rw [hq]
  refine Ev.bind i2.diag ?_
  have hw:av ((Q.length:Int)-(i:Int))=((Q.length-i:Nat):Int):=by rw [aI om om]; omega
  simp only [hw,Int.toNat_natCast,hq,List.length_replicate]
  refine Ev.an ⟨om,om,om⟩ (Ev.an ⟨om,i1⟩ (Ev.of ?_))
  rw [q1,List.drop_of_length_le (l:=List.replicate _ _) (by rw [List.length_replicate]; omega),List.append_nil,List.take_of_length_le (by rw [List.length_drop,List.length_map]; omega),List.map_drop]
 ·refine List.Pairwise.sublist (List.drop_sublist _ _) (q2.imp fun {a b} hab e=>?_)
  subst e; omega
 ·rw [List.length_drop]; omega
 ·rw [← q4]
  constructor
  ·exact fun hc=>⟨List.mem_of_mem_drop hc,i3 c hc⟩
  ·rintro ⟨hc,hn⟩
   rw [← List.take_append_drop i Q] at hc
   rcases List.mem_append.1 hc with hc | hc
   ·exact absurd hn (i4 c hc)
   ·exact hc
structure zC (h:aN):Prop where
 fw:∀ i,i<h.fl.length→mget h.iS (h.fl.getD i default).bY=some (i:Int)
 bw:∀ key v,mget h.iS key=some v→∃ i:Nat,v=i∧i<h.fl.length∧(h.fl.getD i default).bY=key
 nd:Nd h.iS
structure sK (h:aN) (i:Nat) (e:dh) (n:Nat) (M:dh→Prop):Prop where
 len:h.fl.length=n
 lt:i<n
 fw:∀ m,m<n→m≠i→mget h.iS (h.fl.getD m default).bY=some (m:Int)
 bw:∀ key v,key≠e.bY→mget h.iS key=some v→∃ m:Nat,v=m∧m<n∧m≠i∧(h.fl.getD m default).bY=key
 ne:∀ m,m<n→m≠i→(h.fl.getD m default).bY≠e.bY
 nd:Nd h.iS
 mem:∀ x,(x=e∨∃ m,m<n∧m≠i∧h.fl.getD m default=x)↔M x
def s9 (h:aN) (i:Nat) (x:dh):aN:=⟨h.fl.set i x,mput h.iS x.bY (i:Int)⟩
theorem vH {h:aN} {i:Nat} {x:dh} (hi:i<h.fl.length):dw.f h (i:Int) x=some (s9 h i x):=by
 unfold dw.f s9
 simp only [an,Int.toNat_natCast]
 rw [if_pos ⟨om,om⟩]
theorem mT {l:List dh} {x:dh}:x∈l↔∃ m,m<l.length∧l.getD m default=x:=by
 rw [List.mem_iff_getElem?]
 constructor
 ·rintro ⟨i,hi⟩
  obtain ⟨h1,h2⟩:=List.getElem?_eq_some_iff.1 hi
  exact ⟨i,h1,by rw [gD,hi]; rfl⟩
 ·rintro ⟨m,h1,h2⟩
  refine ⟨m,?_⟩
  rw [gD,gE h1] at h2
  rw [gE h1]; exact congrArg some h2
theorem sK.close {h:aN} {i n:Nat} {e:dh} {M:dh→Prop} (H:sK h i e n M):zC (s9 h i e)∧(s9 h i e).fl.length=n∧(∀ x,x∈(s9 h i e).fl↔M x)∧(s9 h i e).fl.getD i default=e:=by
 obtain ⟨h1,h2,h3,h4,h5,h6,h7⟩:=H
 have hl:(s9 h i e).fl.length=n:=by simp [s9,h1]
 have hg:∀ m,(s9 h i e).fl.getD m default=if m=i then e else h.fl.getD m default:=fun m=>dY om
 refine ⟨⟨fun m hm=>?_,fun key v hv=>?_,sJ h6⟩,hl,fun x=>?_,by rw [hg,if_pos rfl]⟩
 ·rw [hl] at hm
  rw [hg]
  show mget (mput h.iS e.bY (i:Int)) _=_
  rw [fQ]
  by_cases e1:m=i
  ·subst e1; simp
  ·rw [if_neg e1,if_neg (fun x=>h5 m hm e1 x.symm)]; exact h3 m hm e1
 ·change mget (mput h.iS e.bY (i:Int)) key=some v at hv
  rw [fQ] at hv
  by_cases e1:e.bY=key
  ·rw [if_pos e1] at hv
   cases hv
   exact ⟨i,rfl,om,by rw [hg,if_pos rfl]; exact e1⟩
  ·rw [if_neg e1] at hv
   obtain ⟨m,k1,k2,k3,k4⟩:=h4 key v (fun x=>e1 x.symm) hv
   exact ⟨m,k1,om,by rw [hg,if_neg k3]; exact k4⟩
 ·rw [mT,hl,← h7]
  constructor
  ·rintro ⟨m,k1,k2⟩
   rw [hg] at k2
   by_cases e1:m=i
   ·rw [if_pos e1] at k2; exact .inl k2.symm
   ·rw [if_neg e1] at k2; exact .inr ⟨m,k1,e1,k2⟩
  ·rintro (rfl | ⟨m,k1,k2,k3⟩)
   ·exact ⟨i,h2,by rw [hg,if_pos rfl]⟩
   ·exact ⟨m,k1,by rw [hg,if_neg k2]; exact k3⟩
theorem sK.move {h:aN} {i n p:Nat} {e:dh} {M:dh→Prop} (H:sK h i e n M) (hp:p<n) (hpi:p≠i):sK (s9 h i (h.fl.getD p default)) p e n M:=by
 obtain ⟨h1,h2,h3,h4,h5,h6,h7⟩:=H
 have hg:∀ m,(s9 h i (h.fl.getD p default)).fl.getD m default=if m=i then h.fl.getD p default else h.fl.getD m default:=fun m=>dY om
 refine ⟨by simp [s9,h1],hp,fun m hm hmp=>?_,fun key v hk hv=>?_,fun m hm hmp=>?_,sJ h6,fun x=>?_⟩
 ·rw [hg]
  show mget (mput h.iS (h.fl.getD p default).bY (i:Int)) _=_
  rw [fQ]
  by_cases e1:m=i
  ·subst e1; simp
  ·rw [if_neg e1,if_neg,h3 m hm e1]
   intro e2
   have k1:=h3 m hm e1
   rw [← e2,h3 p hp hpi] at k1
   have:=Option.some.inj k1
   omega
 ·change mget (mput h.iS (h.fl.getD p default).bY (i:Int)) key=some v at hv
  rw [fQ] at hv
  by_cases e1:(h.fl.getD p default).bY=key
  ·rw [if_pos e1] at hv
   cases hv
   exact ⟨i,rfl,h2,fun x=>hpi x.symm,by rw [hg,if_pos rfl]; exact e1⟩
  ·rw [if_neg e1] at hv
   obtain ⟨m,k1,k2,k3,k4⟩:=h4 key v hk hv
   exact ⟨m,k1,k2,fun x=>by subst x; exact e1 k4,by rw [hg,if_neg k3]; exact k4⟩
 ·rw [hg]
  by_cases e1:m=i
  ·rw [if_pos e1]; exact h5 p hp hpi
  ·rw [if_neg e1]; exact h5 m hm e1
 ·rw [← h7]
  constructor
  ·rintro (h8 | ⟨m,k1,k2,k3⟩)
   ·exact .inl h8
   ·rw [hg] at k3
    by_cases e1:m=i
    ·rw [if_pos e1] at k3; exact .inr ⟨p,hp,hpi,k3⟩
    ·rw [if_neg e1] at k3; exact .inr ⟨m,k1,e1,k3⟩
  ·rintro (h8 | ⟨m,k1,k2,k3⟩)
   ·exact .inl h8
   ·by_cases e1:m=p
    ·subst e1; exact .inr ⟨i,h2,fun x=>k2 x.symm,by rw [hg,if_pos rfl]; exact k3⟩
    ·exact .inr ⟨m,k1,e1,by rw [hg,if_neg k2]; exact k3⟩
theorem zC.inj {h:aN} (H:zC h) {i j:Nat} (hi:i<h.fl.length) (hj:j<h.fl.length) (e:(h.fl.getD i default).bY=(h.fl.getD j default).bY):i=j:=by
 have h1:=H.fw i hi
 rw [e,H.fw j hj] at h1
 have:=Option.some.inj h1
 omega
theorem zC.hole {h:aN} (H:zC h) {i:Nat} (hi:i<h.fl.length):sK h i (h.fl.getD i default) h.fl.length (·∈h.fl):=by
 refine ⟨rfl,hi,fun m hm _=>H.fw m hm,fun key v hk hv=>?_,fun m hm hmi e=>hmi (H.inj hm hi e),H.nd,fun x=>?_⟩
 ·obtain ⟨m,k1,k2,k3⟩:=H.bw key v hv
  exact ⟨m,k1,k2,fun e=>by subst e; exact hk k3.symm,k3⟩
 ·rw [mT]
  constructor
  ·rintro (rfl | ⟨m,k1,_,k3⟩)
   ·exact ⟨i,hi,rfl⟩
   ·exact ⟨m,k1,k3⟩
  ·rintro ⟨m,k1,k2⟩
   by_cases e:m=i
   ·subst e; exact .inl k2.symm
   ·exact .inr ⟨m,k1,e,k2⟩
def tT (a b:dh):Int:=if nq a.gF b.gF=0 then jV a.bY b.bY else nq a.gF b.gF
theorem oH (a b:dh):Ev (fun k=>heap_ahead.f k a b) (tT a b):=by
 unfold heap_ahead.f
 exact Ev.bind (Ev.of (BB _ _)) (Ev.bind (Ev.of (uv _ _)) (Ev.bind (CJ _ _) Ev.pure))
theorem HD {x y:Int}:nq x y≤0↔x≤y:=by unfold nq; split <;> (try split) <;> omega
theorem ui {x y:Int}:nq x y=0↔x=y:=by unfold nq; split <;> (try split) <;> omega
def AA (a b:dh):Prop:=tT a b≤0
theorem yi {a b:dh}:AA a b↔a.gF<b.gF∨(a.gF=b.gF∧dI b.bY a.bY=false):=by
 unfold AA tT
 by_cases h:nq a.gF b.gF=0
 ·have e:=ui.1 h
  rw [if_pos h,Cl]
  constructor
  ·intro k; exact .inr ⟨e,k⟩
  ·rintro (k | ⟨_,k⟩)
   ·omega
   ·exact k
 ·have e:¬ a.gF=b.gF:=fun k=>h (ui.2 k)
  rw [if_neg h,HD]
  constructor
  ·intro k; exact .inl om
  ·rintro (k | ⟨k,_⟩)
   ·omega
   ·exact absurd k e
theorem vK (a:dh):AA a a:=yi.2 (.inr ⟨rfl,iQ _⟩)
theorem qO {a b c:dh} (h:AA a b) (k:AA b c):AA a c:=by
 rw [yi] at *
 rcases h with h | ⟨h,h'⟩ <;> rcases k with k | ⟨k,k'⟩
 ·exact .inl om
 ·exact .inl om
 ·exact .inl om
 ·exact .inr ⟨om,o4 h' k'⟩
theorem Br {a b:dh} (h:tT a b<0):AA a b:=by unfold AA; omega
theorem GU {a b:dh} (h:¬ tT a b<0):AA b a:=by
 rw [yi]
 by_cases h1:b.gF<a.gF
 ·exact .inl h1
 ·have h2:¬ a.gF<b.gF:=fun k=>by
   have e:¬ nq a.gF b.gF=0:=fun k2=>by have:=ui.1 k2; omega
   have e2:nq a.gF b.gF = -1:=by unfold nq; rw [if_pos k]
   apply h; unfold tT; rw [if_neg e,e2]; decide
  have h3:a.gF=b.gF:=om
  refine .inr ⟨h3.symm,?_⟩
  cases e:dI a.bY b.bY with
  | false=>rfl
  | true=>
   exfalso; apply h; unfold tT
   rw [if_pos (ui.2 h3),np]; exact e
def Ord (l:List dh):Prop:=∀ m,0<m→m<l.length→AA (l.getD ((m-1)/2) default) (l.getD m default)
structure o7 (l:List dh) (i:Nat):Prop where
 u1:∀ m,0<m→m<l.length→m≠i→(m-1)/2≠i→AA (l.getD ((m-1)/2) default) (l.getD m default)
 u2:0<i→∀ c,0<c→c<l.length→(c-1)/2=i→AA (l.getD ((i-1)/2) default) (l.getD c default)
def Over (l:List dh) (i:Nat) (e:dh):Prop:=∀ c,0<c→c<l.length→(c-1)/2=i→AA e (l.getD c default)
def Under (l:List dh) (i:Nat) (e:dh):Prop:=0<i→AA (l.getD ((i-1)/2) default) e
theorem Ord.hord {l:List dh} (H:Ord l) (i:Nat):o7 l i:=⟨fun m h1 h2 _ _=>H m h1 h2,fun h1 c h2 h3 h4=>by
 have a:=H c h2 h3
 rw [h4] at a
 rcases Nat.lt_or_ge i l.length with h | h
 ·exact qO (H i h1 h) a
 ·omega⟩
theorem o7.close {l:List dh} {i:Nat} {e:dh} (H:o7 l i) (hi:i<l.length) (ho:Over l i e) (hu:Under l i e):Ord (l.set i e):=by
 intro m h1 h2
 rw [List.length_set] at h2
 rw [dY hi,dY hi]
 by_cases e1:m=i
 ·subst e1
  rw [if_pos rfl,if_neg om]
  exact hu h1
 ·rw [if_neg e1]
  by_cases e2:(m-1)/2=i
  ·rw [if_pos e2]; exact ho m h1 h2 e2
  ·rw [if_neg e2]; exact H.u1 m h1 h2 e1 e2
theorem o7.set {l:List dh} {i:Nat} {e:dh} (H:o7 l i) (hi:i<l.length):o7 (l.set i e) i:=by
 refine ⟨fun m h1 h2 h3 h4=>?_,fun h1 c h2 h3 h4=>?_⟩
 ·rw [List.length_set] at h2
  rw [dY hi,dY hi,if_neg h3,if_neg h4]; exact H.u1 m h1 h2 h3 h4
 ·rw [List.length_set] at h3
  rw [dY hi,dY hi,if_neg om,if_neg om]; exact H.u2 h1 c h2 h3 h4
theorem Over.set {l:List dh} {i:Nat} {e x:dh} (H:Over l i e) (hi:i<l.length):Over (l.set i x) i e:=fun c h1 h2 h3=>by
 rw [List.length_set] at h2
 rw [dY hi,if_neg om]; exact H c h1 h2 h3
theorem o7.up {l:List dh} {i:Nat} {e:dh} (H:o7 l i) (hi:i<l.length) (h0:0<i) (ho:Over l i e) (hl:AA e (l.getD ((i-1)/2) default)):o7 (l.set i (l.getD ((i-1)/2) default)) ((i-1)/2)∧Over (l.set i (l.getD ((i-1)/2) default)) ((i-1)/2) e:=by
 refine ⟨⟨fun m h1 h2 h3 h4=>?_,fun h1 c h2 h3 h4=>?_⟩,fun c h2 h3 h4=>?_⟩
 ·rw [List.length_set] at h2
  rw [dY hi,dY hi]
  have e1:m≠i:=fun e=>by subst e; exact h4 rfl
  rw [if_neg e1]
  by_cases e2:(m-1)/2=i
  ·rw [if_pos e2]; exact H.u2 h0 m h1 h2 e2
  ·rw [if_neg e2]; exact H.u1 m h1 h2 e1 e2
 ·rw [List.length_set] at h3
  rw [dY hi,dY hi,if_neg om]
  have hp:=H.u1 ((i-1)/2) h1 om om om
  by_cases e1:c=i
  ·rw [if_pos e1]; exact hp
  ·rw [if_neg e1]
   have:=H.u1 c h2 h3 e1 om
   rw [h4] at this
   exact qO hp this
 ·rw [List.length_set] at h3
  rw [dY hi]
  by_cases e1:c=i
  ·rw [if_pos e1]; exact hl
  ·rw [if_neg e1]
   have:=H.u1 c h2 h3 e1 om
   rw [h4] at this
   exact qO hl this
theorem o7.down {l:List dh} {i k:Nat} {e:dh} (H:o7 l i) (hi:i<l.length) (hk:k<l.length) (hki:k=2*i+1∨k=2*i+2) (hmin:∀ c,c<l.length→(c=2*i+1∨c=2*i+2)→AA (l.getD k default) (l.getD c default)):o7 (l.set i (l.getD k default)) k:=by
 refine ⟨fun m h1 h2 h3 h4=>?_,fun h1 c h2 h3 h4=>?_⟩
 ·rw [List.length_set] at h2
  rw [dY hi,dY hi]
  by_cases e1:m=i
  ·subst e1
   rw [if_pos rfl,if_neg om]
   exact H.u2 h1 k om hk om
  ·rw [if_neg e1]
   by_cases e2:(m-1)/2=i
   ·rw [if_pos e2]; exact hmin m h2 om
   ·rw [if_neg e2]; exact H.u1 m h1 h2 e1 e2
 ·rw [List.length_set] at h3
  rw [dY hi,dY hi,if_pos om,if_neg om]
  have:=H.u1 c h2 h3 om om
  rw [h4] at this
  exact this
section
variable {a0:aN} {a1:Int} {n:Nat} {M:dh→Prop}
theorem Ek (hn:n≤1000000):∀ (d i:Nat) (h:aN),n-i≤d→sK h i (a0.fl.getD a1.toNat default) n M→o7 h.fl i→∃ i' h' q1 q2 q3,sK h' i' (a0.fl.getD a1.toNat default) n M∧o7 h'.fl i'∧Over h'.fl i' (a0.fl.getD a1.toNat default)∧El (fun k j=>heap_Heap_down.l0 k a0 a1 j (i:Int) h) ((i':Int),q1,q2,q3,h'):=by
 intro d
 induction d with
 | zero=>intro i h hd H; have:=H.lt; omega
 | succ d ih=>
  intro i h hd H O
  have hlen:=H.len
  have hlt:=H.lt
  have w1:av (2*(i:Int))=((2*i:Nat):Int):=by rw [aI om om]; omega
  have w2:av (((2*i:Nat):Int)+1)=((2*i+1:Nat):Int):=by rw [aI om om]; omega
  have w3:av (((2*i+1:Nat):Int)+1)=((2*i+2:Nat):Int):=by rw [aI om om]; omega
  have hk:∃ (kk:Nat) (q:Bool),(kk=2*i+1∨(kk=2*i+2∧kk<n))∧(kk<n→∀ c,c<n→(c=2*i+1∨c=2*i+2)→AA (h.fl.getD kk default) (h.fl.getD c default))∧Ev (fun k=>cond (decide (((2*i+2:Nat):Int)<(h.fl.length:Int))) (an ((0:Int)≤((2*i+2:Nat):Int)∧((2*i+2:Nat):Int)<(h.fl.length:Int)) (an ((0:Int)≤((2*i+1:Nat):Int)∧((2*i+1:Nat):Int)<(h.fl.length:Int)) ((heap_ahead.f k (h.fl.getD (((2*i+2:Nat):Int).toNat) default) (h.fl.getD (((2*i+1:Nat):Int).toNat) default)).bind fun t737=>cond (decide (t737<0)) (some (((2*i+2:Nat):Int),decide (t737<0))) (some (((2*i+1:Nat):Int),decide (t737<0)))))) (some (((2*i+1:Nat):Int),false))) ((kk:Int),q):=by
   by_cases h1:2*i+2<n
   ·by_cases h2:tT (h.fl.getD (((2*i+2:Nat):Int).toNat) default) (h.fl.getD (((2*i+1:Nat):Int).toNat) default)<0
    ·refine ⟨2*i+2,decide (_<0),.inr ⟨rfl,h1⟩,fun _ c hc hc2=>?_,Ev.ct (dT om) (Ev.an ⟨om,om⟩ (Ev.an ⟨om,om⟩ (Ev.bind (oH _ _) (Ev.ct (dT h2) Ev.pure))))⟩
     rcases hc2 with rfl | rfl
     ·exact Br h2
     ·exact vK _
    ·refine ⟨2*i+1,decide (_<0),.inl rfl,fun _ c hc hc2=>?_,Ev.ct (dT om) (Ev.an ⟨om,om⟩ (Ev.an ⟨om,om⟩ (Ev.bind (oH _ _) (Ev.cf (dF h2) Ev.pure))))⟩
     rcases hc2 with rfl | rfl
     ·exact vK _
     ·exact GU h2
   ·refine ⟨2*i+1,false,.inl rfl,fun _ c hc hc2=>?_,Ev.cf (dF om) Ev.pure⟩
    rcases hc2 with rfl | rfl
    ·exact vK _
    ·omega
  obtain ⟨kk,q,hkk,hmin,hev⟩:=hk
  by_cases h1:n≤kk
  ·refine ⟨i,h,(kk:Int),q,true,H,O,fun c c1 c2 c3=>om,?_⟩
   refine El.step (fun _ _=>by rw [heap_Heap_down.l0]) ?_
   simp only [w1,w2,w3]
   exact El.bind hev.el (El.ct (dT om) El.pure)
  ·by_cases h2:tT (a0.fl.getD a1.toNat default) (h.fl.getD ((kk:Int).toNat) default)<0
   ·refine ⟨i,h,(kk:Int),q,decide (tT (a0.fl.getD a1.toNat default) (h.fl.getD ((kk:Int).toNat) default)<0),H,O,fun c c1 c2 c3=>qO (Br h2) (hmin om c om om),?_⟩
    refine El.step (fun _ _=>by rw [heap_Heap_down.l0]) ?_
    simp only [w1,w2,w3]
    exact El.bind hev.el (El.cf (dF om) (El.an ⟨om,om⟩ (El.bind (oH _ _).el (El.ct (dT h2) El.pure))))
   ·have H2:=H.move (p:=kk) om om
    have O2:=O.down (e:=default) om (k:=kk) om om (fun c c1 c2=>hmin om c om c2)
    obtain ⟨i',h',q1,q2,q3,k1,k2,k3,k4⟩:=ih kk _ om H2 O2
    refine ⟨i',h',q1,q2,q3,k1,k2,k3,?_⟩
    refine El.step (fun _ _=>by rw [heap_Heap_down.l0]) ?_
    simp only [w1,w2,w3]
    refine El.bind hev.el (El.cf (dF om) (El.an ⟨om,om⟩ (El.bind (oH _ _).el (El.cf (dF h2) (El.an ⟨om,om⟩ (El.bind (Ev.el (Ev.of (vH om))) ?_))))))
    rw [Int.toNat_natCast]
    exact k4
theorem Jd (hn:n≤1000000):∀ (i:Nat) (h:aN),sK h i (a0.fl.getD a1.toNat default) n M→o7 h.fl i→Over h.fl i (a0.fl.getD a1.toNat default)→∃ i' h' q1,sK h' i' (a0.fl.getD a1.toNat default) n M∧Ord (s9 h' i' (a0.fl.getD a1.toNat default)).fl∧El (fun k j=>cX.l0 k a0 a1 j (i:Int) h) ((i':Int),q1,h'):=by
 intro i
 induction i using Nat.strongRecOn with
 | _ i ih=>
  intro h H O V
  have hlen:=H.len
  have hlt:=H.lt
  by_cases h0:0<i
  ·have w1:av ((av ((i:Int)-1)).tdiv 2)=(((i-1)/2:Nat):Int):=by
    rw [aI (x:=(i:Int)-1) om om,Int.tdiv_eq_ediv_of_nonneg om,aI om om]; omega
   by_cases h2:tT (a0.fl.getD a1.toNat default) (h.fl.getD ((((i-1)/2:Nat):Int).toNat) default)<0
   ·have H2:=H.move (p:=(i-1)/2) om om
    have O2:=O.up om h0 V (Br h2)
    obtain ⟨i',h',q1,k1,k2,k3⟩:=ih ((i-1)/2) om _ H2 O2.1 O2.2
    refine ⟨i',h',q1,k1,k2,?_⟩
    refine El.step (fun _ _=>by rw [cX.l0]) ?_
    simp only [w1]
    refine El.ct (dT om) (El.an ⟨om,om⟩ (El.bind (oH _ _).el (El.ct (dT h2) (El.an ⟨om,om⟩ (El.bind (Ev.el (Ev.of (vH om))) ?_)))))
    rw [Int.toNat_natCast]
    exact k3
   ·refine ⟨i,h,decide (tT (a0.fl.getD a1.toNat default) (h.fl.getD ((((i-1)/2:Nat):Int).toNat) default)<0),H,O.close om V (fun _=>GU h2),?_⟩
    refine El.step (fun _ _=>by rw [cX.l0]) ?_
    simp only [w1]
    exact El.ct (dT om) (El.an ⟨om,om⟩ (El.bind (oH _ _).el (El.cf (dF h2) El.pure)))
  ·refine ⟨i,h,false,H,O.close om V (fun k=>absurd k h0),?_⟩
   refine El.step (fun _ _=>by rw [cX.l0]) ?_
   exact El.cf (dF om) El.pure
end
theorem Jm {h:aN} {i:Nat} (H:zC h) (hn:h.fl.length≤1000000) (hi:i<h.fl.length) (O:o7 h.fl i):∃ h' j,Ev (fun k=>heap_Heap_down.f k h (i:Int)) h'∧zC h'∧h'.fl.length=h.fl.length∧(∀ x,x∈h'.fl↔x∈h.fl)∧j<h'.fl.length∧h'.fl.getD j default=h.fl.getD i default∧o7 h'.fl j∧Over h'.fl j (h.fl.getD i default):=by
 have H1:=H.hole hi
 obtain ⟨i',h',q1,q2,q3,k1,o1,o2,k2⟩:=Ek (a0:=h) (a1:=(i:Int)) hn h.fl.length i h om (by rw [Int.toNat_natCast]; exact H1) O
 obtain ⟨c1,c2,c3,c4⟩:=k1.close
 have hl:=k1.len
 have hlt:=k1.lt
 refine ⟨_,i',?_,c1,c2,c3,om,c4,o1.set om,o2.set om⟩
 unfold heap_Heap_down.f
 exact Ev.an ⟨om,om⟩ (Ev.bind k2.diag (Ev.bind (Ev.of (vH (h:=h') (i:=i') om)) Ev.pure))
theorem JL {h:aN} {i:Nat} {e:dh} {n:Nat} {M:dh→Prop} (he:h.fl.getD i default=e) (H1:sK h i e n M) (hn:n≤1000000) (O:o7 h.fl i) (V:Over h.fl i e):∃ h',Ev (fun k=>cX.f k h (i:Int)) h'∧zC h'∧h'.fl.length=n∧(∀ x,x∈h'.fl↔M x)∧Ord h'.fl:=by
 subst he
 obtain ⟨i',h',q1,k1,o1,k2⟩:=Jd (a0:=h) (a1:=(i:Int)) hn i h (by rw [Int.toNat_natCast]; exact H1) O (by rw [Int.toNat_natCast]; exact V)
 obtain ⟨c1,c2,c3,_⟩:=k1.close
 refine ⟨_,?_,c1,c2,c3,o1⟩
 unfold cX.f
 have hl:=k1.len
 have hlt:=k1.lt
 have hl1:=H1.len
 have hlt1:=H1.lt
 exact Ev.an ⟨om,om⟩ (Ev.bind k2.diag (Ev.bind (Ev.of (vH (h:=h') (i:=i') om)) Ev.pure))
theorem hM {l:List dh} {n m:Nat} (h:m<n):(l.take n).getD m default=l.getD m default:=by
 simp [gD,List.getElem?_take,h]
theorem Ord.take {l:List dh} (O:Ord l) (n:Nat):Ord (l.take n):=fun m h1 h2=>by
 rw [List.length_take] at h2
 rw [hM om,hM om]; exact O m h1 om
theorem yu {h:aN} (H:zC h) (O:Ord h.fl) (hn:h.fl.length≤1000000) (key:BA):
  ∃ h',Ev (fun k=>du.f k h key) ((mget h.iS key).isSome,h')∧zC h'∧h'.fl.length=h.fl.length-(if (mget h.iS key).isSome then 1 else 0)∧(∀ x,x∈h'.fl↔x∈h.fl∧x.bY≠key)∧Ord h'.fl:=by
 cases hk:mget h.iS key with
 | none=>
  refine ⟨h,?_,H,sM,fun x=>⟨fun hx=>⟨hx,fun e=>?_⟩,fun hx=>hx.1⟩,O⟩
  ·unfold du.f
   rw [hk]
   exact Ev.ct rfl Ev.pure
  ·obtain ⟨m,h1,h2⟩:=mT.1 hx
   have:=H.fw m h1
   rw [h2,e,hk] at this; cases this
 | some v=>
  obtain ⟨i,rfl,hi,hik⟩:=H.bw key v hk
  generalize hN:h.fl.length=n at hn hi ⊢
  have w1:av ((n:Int)-1)=((n-1:Nat):Int):=by rw [aI om om]; omega
  have e1:(h.fl.take (n-1)).drop 0=h.fl.take (n-1):=List.drop_zero
  have hl:(h.fl.take (n-1)).length=n-1:=by rw [List.length_take,hN]; omega
  have hinj:∀ {p q:Nat},p<n→q<n→(h.fl.getD p default).bY=(h.fl.getD q default).bY→p=q:=fun hp hq e=>H.inj om om e
  unfold du.f
  rw [hk,hN,w1,Int.toNat_natCast,e1]
  by_cases hlt:i<n-1
  ·have Ho:sK ⟨h.fl.take (n-1),l6 h.iS key⟩ i (h.fl.getD (n-1) default) (n-1) (fun x=>x∈h.fl∧x.bY≠key):=by
    refine ⟨hl,hlt,fun m hm hmi=>?_,fun key' v hk' hv=>?_,fun m hm hmi e=>?_,Gq H.nd,fun x=>?_⟩
    ·show mget (l6 h.iS key) ((h.fl.take (n-1)).getD m default).bY=_
     rw [hM hm,oQ H.nd,if_neg (fun e=>hmi (hinj om hi (by rw [← e,hik])))]
     exact H.fw m om
    ·change mget (l6 h.iS key) key'=some v at hv
     rw [oQ H.nd] at hv
     by_cases e2:key=key'
     ·rw [if_pos e2] at hv; cases hv
     ·rw [if_neg e2] at hv
      obtain ⟨m,k1,k2,k3⟩:=H.bw key' v hv
      have k4:m≠n-1:=fun e=>hk' (by rw [← k3,e])
      refine ⟨m,k1,om,fun e=>e2 (by rw [← hik,← k3,e]),?_⟩
      show ((h.fl.take (n-1)).getD m default).bY=_
      rw [hM om]; exact k3
    ·change ((h.fl.take (n-1)).getD m default).bY=_ at e
     rw [hM hm] at e
     have:=hinj om om e
     omega
    ·show (_∨∃ m,m<n-1∧m≠i∧(h.fl.take (n-1)).getD m default=x)↔_
     rw [mT,hN]
     constructor
     ·rintro (rfl | ⟨m,k1,k2,k3⟩)
      ·exact ⟨⟨n-1,om,rfl⟩,fun e=>by have:=hinj om hi (e.trans hik.symm); omega⟩
      ·rw [hM k1] at k3
       exact ⟨⟨m,om,k3⟩,fun e=>k2 (hinj om hi (by rw [k3,e,hik]))⟩
     ·rintro ⟨⟨m,k1,k2⟩,k3⟩
      by_cases e2:m=n-1
      ·subst e2; exact .inl k2.symm
      ·exact .inr ⟨m,om,fun e=>k3 (by rw [← k2,e,hik]),by rw [hM om]; exact k2⟩
   obtain ⟨c1,c2,c3,c4⟩:=Ho.close
   obtain ⟨h2,j,d1,d2,d3,d4,j1,j2,o1,o2⟩:=Jm c1 om (i:=i) om (((O.take (n-1)).hord i).set om)
   rw [c4] at j2 o2
   have j3:=d2.fw j j1
   rw [j2] at j3
   obtain ⟨h3,u1,u2,u3,u4,u5⟩:=JL rfl (d2.hole j1) om o1 (by rw [j2]; exact o2)
   refine ⟨h3,?_,u2,by simp only [Option.isSome_some,if_true]; omega,fun x=>by rw [u4,d4,c3],u5⟩
   refine Ev.cf rfl (Ev.an ⟨om,om⟩ (Ev.an ⟨om,om,om⟩ (Ev.ct (dT (by simp only [Option.getD_some]; omega)) ?_)))
   simp only [Option.getD_some]
   refine Ev.bind (Ev.of (vH (by rw [hl]; exact hlt))) (Ev.bind d1 ?_)
   rw [j3]
   exact Ev.bind u1 Ev.pure
  ·obtain rfl:i=n-1:=om
   refine ⟨⟨h.fl.take (n-1),l6 h.iS key⟩,Ev.cf rfl (Ev.an ⟨om,om⟩ (Ev.an ⟨om,om,om⟩ (Ev.cf (dF (by simp only [Option.getD_some]; omega)) Ev.pure))),⟨fun m hm=>?_,fun key' v hv=>?_,Gq H.nd⟩,by rw [hl]; simp,fun x=>?_,O.take _⟩
   ·change m<(h.fl.take (n-1)).length at hm
    rw [hl] at hm
    show mget (l6 h.iS key) ((h.fl.take (n-1)).getD m default).bY=_
    rw [hM hm,oQ H.nd,if_neg (fun e=>by have:=hinj (p:=m) (q:=n-1) om hi (by rw [← e,hik]); omega)]
    exact H.fw m om
   ·change mget (l6 h.iS key) key'=some v at hv
    rw [oQ H.nd] at hv
    by_cases e2:key=key'
    ·rw [if_pos e2] at hv; cases hv
    ·rw [if_neg e2] at hv
     obtain ⟨m,k1,k2,k3⟩:=H.bw key' v hv
     have k4:m≠n-1:=fun e=>e2 (by rw [← hik,← k3,e])
     refine ⟨m,k1,by show m<(h.fl.take (n-1)).length; omega,?_⟩
     show ((h.fl.take (n-1)).getD m default).bY=_
     rw [hM om]; exact k3
   ·show x∈h.fl.take (n-1)↔_
    rw [mT,mT,hl,hN]
    constructor
    ·rintro ⟨m,k1,k2⟩
     rw [hM k1] at k2
     exact ⟨⟨m,om,k2⟩,fun e=>by have:=hinj (p:=m) (q:=n-1) om hi (by rw [k2,e,hik]); omega⟩
    ·rintro ⟨⟨m,k1,k2⟩,k3⟩
     have k4:m≠n-1:=fun e=>k3 (by rw [← k2,e,hik])
     exact ⟨m,om,by rw [hM om]; exact k2⟩
theorem mO {l:List dh} {x:dh} {m:Nat}:(l++[x]).getD m default=if m<l.length then l.getD m default else if m=l.length then x else default:=by
 simp only [gD,List.getElem?_append]
 by_cases h:m<l.length
 ·simp [h]
 ·rw [if_neg h,if_neg h]
  by_cases h2:m=l.length
  ·subst h2; simp
  ·rw [if_neg h2,List.getElem?_eq_none (by simp; omega)]; rfl
theorem Fh {h:aN} (H:zC h) (O:Ord h.fl) (hn:h.fl.length≤100000) (at_:Int) (key:BA):
  ∃ h',Ev (fun k=>eZ.f k h at_ key) h'∧zC h'∧h'.fl.length=h.fl.length+1-(if (mget h.iS key).isSome then 1 else 0)∧(∀ x,x∈h'.fl↔x=⟨at_,key⟩∨(x∈h.fl∧x.bY≠key))∧Ord h'.fl:=by
 obtain ⟨h1,d1,d2,d3,d4,d5⟩:=yu H O om key
 have hl:h1.fl.length≤h.fl.length:=om
 have hd:(if (mget h.iS key).isSome then 1 else 0)≤h.fl.length:=by
  cases hk:mget h.iS key with
  | none=>simp
  | some v=>obtain ⟨i,_,hi,_⟩:=H.bw key v hk; simp; omega
 have w1:av (((h1.fl++([(⟨at_,key⟩:dh)]:List dh)).length:Int)-1)=((h1.fl.length:Nat):Int):=by
  rw [List.length_append,List.length_singleton,aI om om]; omega
 have hne:∀ m,m<h1.fl.length→(h1.fl.getD m default).bY≠key:=fun m hm=>((d4 _).1 (mT.2 ⟨m,hm,rfl⟩)).2
 have Ho:sK ⟨h1.fl++[⟨at_,key⟩],h1.iS⟩ h1.fl.length ⟨at_,key⟩ (h1.fl.length+1) (fun x=>x=⟨at_,key⟩∨(x∈h.fl∧x.bY≠key)):=by
  refine ⟨sM,om,fun m hm hmi=>?_,fun key' v hk' hv=>?_,fun m hm hmi=>?_,d2.nd,fun x=>?_⟩
  ·show mget h1.iS ((h1.fl++[_]).getD m default).bY=_
   rw [mO,if_pos om]; exact d2.fw m om
  ·obtain ⟨m,k1,k2,k3⟩:=d2.bw key' v hv
   refine ⟨m,k1,om,om,?_⟩
   show ((h1.fl++[_]).getD m default).bY=_
   rw [mO,if_pos k2]; exact k3
  ·show ((h1.fl++[_]).getD m default).bY≠_
   rw [mO,if_pos om]; exact hne m om
  ·rw [← d4,mT]
   constructor
   ·rintro (h8 | ⟨m,k1,k2,k3⟩)
    ·exact .inl h8
    ·change (h1.fl++[_]).getD m default=x at k3
     rw [mO,if_pos om] at k3
     exact .inr ⟨m,om,k3⟩
   ·rintro (h8 | ⟨m,k1,k2⟩)
    ·exact .inl h8
    ·refine .inr ⟨m,om,om,?_⟩
     show (h1.fl++[_]).getD m default=x
     rw [mO,if_pos k1]; exact k2
 have O2:o7 (h1.fl++[⟨at_,key⟩]) h1.fl.length:=by
  refine ⟨fun m m1 m2 m3 m4=>?_,fun m1 c c1 c2 c3=>?_⟩
  ·rw [List.length_append,List.length_singleton] at m2
   rw [mO,mO,if_pos om,if_pos om]
   exact d5 m m1 om
  ·rw [List.length_append,List.length_singleton] at c2; omega
 have V2:Over (h1.fl++[⟨at_,key⟩]) h1.fl.length ⟨at_,key⟩:=fun c c1 c2 c3=>by
  rw [List.length_append,List.length_singleton] at c2; omega
 obtain ⟨h2,u1,u2,u3,u4,u5⟩:=JL (by show (h1.fl++[_]).getD _ default=_; rw [mO,if_neg om,if_pos rfl]) Ho om O2 V2
 refine ⟨h2,?_,u2,om,u4,u5⟩
 unfold eZ.f
 refine Ev.bind d1 (Ev.an ⟨by simp; omega,by simp; omega⟩ ?_)
 rw [w1]
 exact Ev.bind u1 Ev.pure
theorem CQ:Ord []:=fun m h1 h2=>by simp at h2
theorem Cz:zC ⟨[],[]⟩:=⟨fun i hi=>by simp at hi,fun key v hv=>(by cases hv),yK⟩
end Go.Proofs.YtfknmdelgepbjaaGreatDoor
