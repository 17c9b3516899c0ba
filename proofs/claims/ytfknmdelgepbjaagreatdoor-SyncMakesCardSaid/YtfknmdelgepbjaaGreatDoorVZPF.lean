import Derived.Test.YtfknmdelgepbjaaGreatDoorVZYA
set_option linter.all false
set_option maxRecDepth 10000
namespace Go.Proofs.YtfknmdelgepbjaaGreatDoor
open Go Go.Sp
inductive Cx where
 | m (x:bB)
 | r (s:BA)
 | u (s:BA)
 deriving DecidableEq,Inhabited
def Cx.chg:Cx→kb
 | .m x=>⟨1,x,⟨#[]⟩⟩
 | .r s=>⟨2,⟨⟨#[]⟩,⟨#[]⟩,⟨#[]⟩,false⟩,s⟩
 | .u s=>⟨3,⟨⟨#[]⟩,⟨#[]⟩,⟨#[]⟩,false⟩,s⟩
def Cx.key:Cx→BA
 | .m x=>nK x
 | .r s=>DL s
 | .u s=>D6 s
def Cx.dyn:Cx→jW
 | .m x=>.d89 x
 | .r s=>.d141 s
 | .u s=>.d143 s
def Cx.ok:Cx→Prop
 | .m x=>Kx x
 | .r s=>s∈ji
 | .u s=>s∈ma
theorem Cx.rz {c:Cx} (h:c.ok):iL.f c.chg=some c.key:=by
 cases c with
 | m x=>exact (Bv h).2.1
 | r s=>exact (zY s h).2.1
 | u s=>exact (Ar s h).2.1
theorem Cx.of {c:Cx} (h:c.ok):Ev (fun k=>nj.f k c.key) c.dyn:=by
 cases c with
 | m x=>exact Ik h
 | r s=>exact I9 s h
 | u s=>exact Ji s h
theorem Cx.inj {a b:Cx} (ha:a.ok) (hb:b.ok) (h:a.key=b.key):a=b:=by
 have h1:=Cx.of ha
 rw [h] at h1
 have h2:=h1.uniq (Cx.of hb)
 cases a <;> cases b <;> simp_all [Cx.dyn]
theorem E8 {α:Type} {P:List α→Prop} (h0:P []) (h1:∀ Y x,P Y→P (Y++[x])) (Z:List α):P Z:=by
 have:∀ n (Z:List α),Z.length=n→P Z:=by
  intro n
  induction n with
  | zero=>intro Z h; rw [List.length_eq_zero_iff.1 h]; exact h0
  | succ n ih=>
   intro Z h
   rcases List.eq_nil_or_concat Z with rfl | ⟨Y,x,rfl⟩
   ·exact h0
   ·rw [List.concat_eq_append] at h ⊢
    exact h1 Y x (ih Y (by simpa using h))
 exact this _ Z rfl
section
variable {α:Type} [DecidableEq α]
def iJ (Z:List α) (c:α):Nat:=(Z.foldl (fun (s:Nat×Nat) x=>(s.1+1,if x=c then s.1+1 else s.2)) (0,0)).2
theorem xR (c:α):∀ (Z:List α) (s:Nat×Nat),(Z.foldl (fun (s:Nat×Nat) x=>(s.1+1,if x=c then s.1+1 else s.2)) s).1=s.1+Z.length
 | [],s=>rfl
 | x::Z,s=>by rw [List.foldl_cons,xR c Z]; simp; omega
theorem jo (Z:List α) (x c:α):iJ (Z++[x]) c=if x=c then Z.length+1 else iJ Z c:=by
 unfold iJ
 rw [List.foldl_append,List.foldl_cons,List.foldl_nil]
 simp only [xR,Nat.zero_add]
theorem Eh (c:α):iJ ([]:List α) c=0:=rfl
theorem Hb (c:α) (Z:List α):iJ Z c≤Z.length:=by
 induction Z using E8 with
 | h0=>exact Nat.le_refl _
 | h1 Y x ih=>
  rw [jo,List.length_append,List.length_singleton]
  split <;> omega
theorem Ed (c:α) (Z:List α):0<iJ Z c↔c∈Z:=by
 induction Z using E8 with
 | h0=>simp [Eh]
 | h1 Y x ih=>
  rw [jo,List.mem_append,List.mem_singleton]
  by_cases e:x=c
  ·rw [if_pos e]; exact ⟨fun _=>.inr e.symm,fun _=>om⟩
  ·rw [if_neg e,ih]; exact ⟨.inl,fun h=>h.elim id fun h=>absurd h.symm e⟩
end
theorem Er {Z:List Cx} (hz:∀ c∈Z,c.ok) {c:Cx} (hc:c.ok):iJ (Z.map Cx.key) c.key=iJ Z c:=by
 induction Z using E8 with
 | h0=>rfl
 | h1 Y x ih=>
  rw [List.map_append,List.map_cons,List.map_nil,jo,jo,ih (fun a h=>hz a (List.mem_append_left _ h)),List.length_map]
  by_cases e:x=c
  ·rw [if_pos e,if_pos (by rw [e])]
  ·rw [if_neg e,if_neg fun h=>e (Cx.inj (hz x sM) hc h)]
theorem B3 {l:List BA} {m:Nat} (h:m<l.length):aw.at l (m:Int)=l[m]:=by
 unfold Kd.at; rw [Int.toNat_natCast]; simp [h]
theorem Eu {K:List BA} {from_:Int} (hf:0≤from_∧from_≤1000000) (hl:K.length≤1000) (key:BA):Ev (fun k=>ki.f k K from_ key) (if iJ K key=0 then 0 else from_+(iJ K key:Int)):=by
 have loop:∀ m:Nat,m≤K.length→El (fun k j=>ki.l0 k K from_ key j ((m:Int)-1)) (if iJ (K.take m) key=0 then .inl (-1,false) else .inr (from_+(iJ (K.take m) key:Int))):=by
  intro m
  induction m with
  | zero=>
   intro _
   refine El.step (fun _ _=>by rw [ki.l0]) ?_
   rw [dF (by omega:¬ (0:Int)≤(((0:Nat):Int)-1))]
   exact El.pure
  | succ m ih=>
   intro hm
   have hm2:m<K.length:=om
   refine El.step (fun _ _=>by rw [ki.l0]) ?_
   rw [show (((m+1:Nat):Int)-1)=(m:Int) by omega]
   refine El.ct (dT om) (El.an ⟨om,om⟩ ?_)
   rw [B3 hm2,List.take_succ_eq_append_getElem hm2,jo,List.length_take,Nat.min_eq_left om]
   by_cases e:K[m]=key
   ·rw [if_pos e,if_neg om]
    refine El.ct (dT e) ?_
    rw [aG (x:=from_+1) om om,aG om om,show from_+1+(m:Int)=from_+((m+1:Nat):Int) by omega]
    exact El.pure
   ·rw [if_neg e]
    refine El.cf (dF e) ?_
    rw [aG om om]
    exact ih om
 have h:=loop K.length (Nat.le_refl _)
 rw [List.take_length] at h
 unfold ki.f
 rw [aG om om]
 by_cases e:iJ K key=0
 ·rw [if_pos e] at h ⊢
  exact Ev.bind h.diag (by simp only [fall]; exact Ev.pure)
 ·rw [if_neg e] at h ⊢
  exact Ev.bind h.diag (by simp only [fall]; exact Ev.pure)
theorem Gs {l:List kb} {m:Nat} (h:m<l.length):kb.K.at l (m:Int)=l[m]:=by
 unfold Kd.at; rw [Int.toNat_natCast]; simp [h]
theorem Ic {Z:List Cx} (hz:∀ c∈Z,c.ok) (hl:Z.length≤1000):Ev (fun k=>iR.f k (Z.map Cx.chg)) (Z.map Cx.key):=by
 have loop:∀ n x:Nat,Z.length-x=n→x≤Z.length→El (fun k j=>iR.l0 k (Z.map Cx.chg) j (x:Int) ((Z.map Cx.key).take x)) ((Z.length:Int),false,Z.map Cx.key):=by
  intro n
  induction n with
  | zero=>
   intro x hd hx
   obtain rfl:x=Z.length:=om
   refine El.step (fun _ _=>by rw [iR.l0]) ?_
   rw [dF (by rw [List.length_map]; omega:¬ (Z.length:Int)<((Z.map Cx.chg).length:Int)),List.take_of_length_le sM]
   exact El.pure
  | succ n ih=>
   intro x hd hx
   have hx2:x<Z.length:=om
   have ih2:=ih (x+1) om om
   refine El.step (fun _ _=>by rw [iR.l0]) ?_
   rw [Gs (by simpa using hx2),List.getElem_map]
   have hk:=Cx.rz (hz Z[x] (List.getElem_mem hx2))
   refine El.ct (dT (by rw [List.length_map]; omega)) (El.an ⟨om,by rw [List.length_map]; omega⟩ (El.bind (Ev.of hk).el (El.an ?_ ?_)))
   ·rw [List.length_take,List.length_map,List.length_singleton]; omega
   ·rw [aG om om]
    rw [List.take_succ_eq_append_getElem (by simpa using hx2),List.getElem_map] at ih2
    exact ih2
 unfold iR.f
 exact Ev.bind (loop _ 0 rfl om).diag Ev.pure
theorem BC {s:dU} {Z:List Cx} (hs:s.fL=Z.map Cx.chg) (hz:∀ c∈Z,c.ok) (hl:Z.length≤1000) (hf:0≤s.aC∧s.aC≤1000000) {n:Int} (hn:0≤n) {c:Cx} (hc:c.ok):Ev (fun k=>fS.f k s n c.key) (decide (c∈Z∧n<s.aC+(iJ Z c:Int))):=by
 unfold fS.f
 rw [hs]
 have h:=Eu (K:=Z.map Cx.key) hf (by simpa using hl) c.key
 rw [Er hz hc] at h
 refine Ev.bind (Ic hz hl) (Ev.bind h (Ev.of ?_))
 congr 1
 have hp:=Ed c Z
 rw [Bool.eq_iff_iff,decide_eq_true_iff,decide_eq_true_iff]
 by_cases e:iJ Z c=0
 ·rw [if_pos e]; exact ⟨fun h=>om,fun h=>by have:=hp.2 h.1; omega⟩
 ·rw [if_neg e]; exact ⟨fun h=>⟨hp.1 om,h⟩,fun h=>h.2⟩
structure D7 (d:cC) (Z:List Cx) (from_:Int):Prop where
 fr:0≤from_∧from_≤1000000
 at_:d.iU.fn.fv=from_+(Z.length:Int)
 GV:d.iU.eb=from_+1000
 ok:∀ c∈Z,c.ok
 keys:∃ Q:List Cx,d.eU=Q.map Cx.key∧Q.Pairwise (fun a b=>iJ Z a<iJ Z b)∧Q.length≤Z.length∧∀ c,c∈Q↔c∈Z
 pos:∀ c,c.ok→mget d.ou c.key=if c∈Z then some (from_+(iJ Z c:Int)) else none
theorem ER {from_:Int} (h:0≤from_∧from_≤1000000):D7 ⟨⟨⟨from_⟩,from_+1000⟩,[],[]⟩ [] from_:=⟨h,sM,rfl,fun c h=>(by cases h),⟨[],rfl,List.Pairwise.nil,Nat.le_refl _,fun _=>Iff.rfl⟩,fun c _=>rfl⟩
theorem DI {k:BA}:∀ (B A:List BA),(∀ a∈A,a≠k)→(A++k::B).length≤1000→Ev (fun n=>bC.f n (A++k::B) k) (A.length:Int):=by
 intro B A hA hl
 have loop:∀ n x:Nat,A.length-x=n→x≤A.length→El (fun n j=>bC.l0 n (A++k::B) k j (x:Int)) (.inr (A.length:Int)):=by
  intro n
  induction n with
  | zero=>
   intro x hd hx
   obtain rfl:x=A.length:=om
   have hlt:A.length<(A++k::B).length:=sM
   refine El.step (fun _ _=>by rw [bC.l0]) ?_
   refine El.ct (dT om) (El.an ⟨om,om⟩ (El.ct (dT ?_) El.pure))
   rw [B3 hlt]; simp
  | succ n ih=>
   intro x hd hx
   have hlt:x<(A++k::B).length:=by simp; omega
   have hA2:x<A.length:=om
   refine El.step (fun _ _=>by rw [bC.l0]) ?_
   refine El.ct (dT om) (El.an ⟨om,om⟩ (El.cf (dF ?_) ?_))
   ·rw [B3 hlt,List.getElem_append_left hA2]; exact fun e=>hA _ (List.getElem_mem hA2) e.symm
   ·rw [aG om om]; exact ih (x+1) om om
 unfold bC.f
 exact Ev.bind (loop _ 0 rfl om).diag (by simp only [fall]; exact Ev.pure)
theorem uQ {d:cC} {Z:List Cx} {from_:Int} (h:D7 d Z from_) (hl:Z.length≤900) {c:Cx} (hc:c.ok):∃ d',Ev (fun k=>iC.f k d c.key) (from_+((Z.length+1:Nat):Int),0,d')∧D7 d' (Z++[c]) from_:=by
 obtain ⟨f1,f2⟩:=h.fr
 have hat:=h.at_
 have hmo:=h.GV
 have hn:Ev (fun k=>fF.f k d.iU) (from_+((Z.length+1:Nat):Int),0,⟨⟨from_+((Z.length+1:Nat):Int)⟩,d.iU.eb⟩):=by
  suffices ha:Ev (fun k=>clock_Counter_Add.f k d.iU 1) (from_+((Z.length+1:Nat):Int),0,⟨⟨from_+((Z.length+1:Nat):Int)⟩,d.iU.eb⟩) by
   unfold fF.f; exact Ev.bind ha Ev.pure
  unfold clock_Counter_Add.f
  refine Ev.cf rfl (Ev.add 1 fun m=>?_)
  rw [clock_Counter_Add.l0]
  have e1:(d.iU.fn.fv==d.iU.eb)=false:=by rw [beq_eq_false_iff_ne]; omega
  have e2:av (d.iU.eb-d.iU.fn.fv)=d.iU.eb-d.iU.fn.fv:=aG om om
  have e3:decide ((1:Int)<d.iU.eb-d.iU.fn.fv)=true:=by rw [decide_eq_true_iff]; omega
  have e4:av (d.iU.fn.fv+1)=from_+((Z.length+1:Nat):Int):=by rw [aG om om]; omega
  rw [show decide ((0:Int)<1)=true from rfl,e1,e2,e3,e4]
  rfl
 obtain ⟨Q,q1,q2,q3,q4⟩:=h.keys
 have hlt:∀ a∈Q,iJ (Z++[c]) a=if c=a then Z.length+1 else iJ Z a:=fun a _=>jo Z c a
 have mk:∀ Q':List Cx,Q'.Sublist Q→(∀ a,a∈Q'↔a∈Q∧a≠c)→D7 ⟨⟨⟨from_+((Z.length+1:Nat):Int)⟩,d.iU.eb⟩,Q'.map Cx.key++[c.key],mput d.ou c.key (from_+((Z.length+1:Nat):Int))⟩ (Z++[c]) from_:=fun Q' hs hm=>by
  refine ⟨h.fr,?_,h.GV,fun a ha=>?_,⟨Q'++[c],sM,?_,?_,fun a=>?_⟩,fun a ha=>?_⟩
  ·show from_+((Z.length+1:Nat):Int)=_; rw [List.length_append,List.length_singleton]
  ·rcases List.mem_append.1 ha with ha | ha
   ·exact h.ok a ha
   ·rw [List.mem_singleton.1 ha]; exact hc
  ·refine List.pairwise_append.2 ⟨(q2.sublist hs).imp_of_mem fun {a b} ha hb hab=>?_,List.pairwise_singleton _ _,fun a ha b hb=>?_⟩
   ·rw [jo,jo,if_neg fun e=>((hm a).1 ha).2 e.symm,if_neg fun e=>((hm b).1 hb).2 e.symm]; exact hab
   ·rw [List.mem_singleton.1 hb,jo,jo,if_neg fun e=>((hm a).1 ha).2 e.symm,if_pos rfl]
    have:=Hb a Z; omega
  ·have:=hs.length_le; rw [List.length_append,List.length_append,List.length_singleton]; simp; omega
  ·rw [List.mem_append,List.mem_append,hm,q4,List.mem_singleton]
   by_cases e:a=c <;> simp [e]
  ·show mget (mput _ _ _) _=_
   rw [fU,jo]
   by_cases e:c=a
   ·subst e; rw [if_pos rfl,if_pos rfl,if_pos sM]
   ·rw [if_neg fun k=>e (Cx.inj hc ha k),h.pos a ha,if_neg e]
    by_cases k:a∈Z
    ·rw [if_pos k,if_pos (by simp [k])]
    ·rw [if_neg k,if_neg (by simp [k,Ne.symm e])]
 have hp:=h.pos c hc
 unfold iC.f
 by_cases hz:c∈Z
 ·rw [if_pos hz] at hp
  obtain ⟨A,B,hab⟩:=List.append_of_mem ((q4 c).2 hz)
  have hnd:∀ a∈A++B,a≠c:=fun a ha e=>by
   subst e
   rw [hab] at q2
   have q5:=List.pairwise_append.1 q2
   have q6:=List.pairwise_cons.1 q5.2.1
   rcases List.mem_append.1 ha with ha | ha
   ·have:=q5.2.2 a ha a List.mem_cons_self; omega
   ·have:=q6.1 a ha; omega
  have hQ:=mk (A++B) (by rw [hab]; exact List.Sublist.append (List.Sublist.refl _) (List.sublist_cons_self _ _)) fun a=>by
   rw [hab]; constructor
   ·exact fun ha=>⟨by rcases List.mem_append.1 ha with k | k <;> simp [k],hnd a ha⟩
   ·rintro ⟨ha,hne⟩; simp only [List.mem_append,List.mem_cons] at ha ⊢
    rcases ha with k | k | k
    ·exact .inl k
    ·exact absurd k hne
    ·exact .inr k
  have hi:Ev (fun n=>bC.f n d.eU c.key) (A.length:Int):=by
   have:=DI (k:=c.key) (B.map Cx.key) (A.map Cx.key) (fun a ha e=>by
    obtain ⟨x,x1,rfl⟩:=List.mem_map.1 ha
    have hxQ:x∈Q:=by rw [hab]; simp [x1]
    exact hnd x (List.mem_append_left _ x1) (Cx.inj (h.ok x ((q4 x).1 hxQ)) hc e)) (by rw [hab] at q3; simp at q3 ⊢; omega)
   rw [List.length_map] at this
   rw [q1,hab,List.map_append,List.map_cons]; exact this
  have hla:A.length<d.eU.length:=by rw [q1,hab]; simp
  have hd:dX.f d.eU (A.length:Int) (av ((A.length:Int)+1))=some ((A++B).map Cx.key):=by
   unfold dX.f
   have hq:d.eU.length=Q.length:=by rw [q1,List.length_map]
   rw [aG om om]
   unfold an
   rw [if_pos ⟨om,om,om⟩,q1,hab]
   rw [show ((A.length:Int)+1).toNat=A.length+1 by omega,Int.toNat_natCast,List.map_append,List.map_append,List.map_cons]
   congr 1
   have e1:A.length=(A.map Cx.key).length:=by rw [List.length_map]
   rw [e1,List.take_left,← List.drop_drop,List.drop_left]; rfl
  refine ⟨_,Ev.bind hn (Ev.cf rfl (Ev.bind (Ev.ct (by rw [hp]; rfl) (Ev.bind hi (Ev.bind (Ev.of hd) Ev.pure))) (Ev.an ?_ Ev.pure))),hQ⟩
  show ((A++B).map Cx.key).length+1≤_∧(((A++B).map Cx.key).length+1)*16≤_
  rw [List.length_map]
  have:(A++B).length≤Q.length:=by rw [hab]; simp
  omega
 ·rw [if_neg hz] at hp
  have hQ:=mk Q (List.Sublist.refl _) fun a=>⟨fun ha=>⟨ha,fun e=>hz ((q4 c).1 (e ▸ ha))⟩,And.left⟩
  rw [← q1] at hQ
  refine ⟨_,Ev.bind hn (Ev.cf rfl (Ev.bind (Ev.cf (by rw [hp]; rfl) Ev.pure) (Ev.an ?_ Ev.pure))),hQ⟩
  have hq:d.eU.length=Q.length:=by rw [q1,List.length_map]
  show d.eU.length+1≤_∧(d.eU.length+1)*16≤_; omega
theorem Fb {d:cC} {Z:List Cx} {from_:Int} (h:D7 d Z from_) (hl:Z.length≤900) (n:Int):∃ Y:List Cx,Ev (fun k=>b8.f k d n) (Y.map Cx.key)∧Y.Nodup∧Y.length≤Z.length∧∀ c,c∈Y↔(c∈Z∧n<from_+(iJ Z c:Int)):=by
 obtain ⟨Q,q1,q2,q3,q4⟩:=h.keys
 have hq:d.eU.length=Q.length:=by rw [q1,List.length_map]
 have loop:∀ x:Nat,x≤Q.length→(∀ c∈Q.drop x,n<from_+(iJ Z c:Int))→∃ (i:Nat) (b:Bool),i≤Q.length∧El (fun k j=>b8.l0 k d n j (x:Int)) ((i:Int),b)∧(∀ c∈Q.drop i,n<from_+(iJ Z c:Int))∧∀ c∈Q.take i,¬ n<from_+(iJ Z c:Int):=by
  intro x
  induction x with
  | zero=>
   intro _ hd
   refine ⟨0,false,om,El.step (fun _ _=>by rw [b8.l0]) ?_,hd,fun c hc=>(by simp at hc)⟩
   exact El.cf rfl El.pure
  | succ x ih=>
   intro hx hd
   have hx2:x<Q.length:=om
   have hg:(mget d.ou (d.eU.getD (av (((x+1:Nat):Int)-1)).toNat default)).getD 0=from_+(iJ Z Q[x]:Int):=by
    have hm:Q[x]∈Z:=(q4 _).1 (List.getElem_mem hx2)
    rw [aG om om,show (((x+1:Nat):Int)-1).toNat=x by omega,q1,gD,List.getElem?_map,gE hx2]
    show (mget d.ou (Q[x]).key).getD 0=_
    rw [h.pos _ (h.ok _ hm),if_pos hm]; rfl
   have hw:av (((x+1:Nat):Int)-1)=(x:Int):=by rw [aG om om]; omega
   by_cases hp:n<from_+(iJ Z Q[x]:Int)
   ·obtain ⟨i,b,i1,i2,i3,i4⟩:=ih om fun c hc=>by
     rw [List.drop_eq_getElem_cons hx2] at hc
     rcases List.mem_cons.1 hc with rfl | hc
     ·exact hp
     ·exact hd c hc
    refine ⟨i,b,i1,El.step (fun _ _=>by rw [b8.l0]) ?_,i3,i4⟩
    refine El.ct (dT om) (El.an ⟨by rw [hw]; omega,by rw [hw,hq]; omega⟩ (El.ct (by rw [hg]; exact dT hp) ?_))
    rw [hw]; exact i2
   ·refine ⟨x+1,false,hx,El.step (fun _ _=>by rw [b8.l0]) ?_,hd,fun c hc=>?_⟩
    ·refine El.ct (dT om) (El.an ⟨by rw [hw]; omega,by rw [hw,hq]; omega⟩ (El.cf (by rw [hg]; exact dF hp) ?_))
     rw [hg,dF hp]; exact El.pure
    ·rw [List.take_succ_eq_append_getElem hx2] at hc
     rcases List.mem_append.1 hc with hc | hc
     ·have hpw:iJ Z c<iJ Z Q[x]:=by
       have e:Q=Q.take x++Q[x]::Q.drop (x+1):=by rw [← List.drop_eq_getElem_cons hx2,List.take_append_drop]
       rw [e] at q2
       have:=(List.pairwise_append.1 q2).2.2 c hc
       exact this _ List.mem_cons_self
      omega
     ·rw [List.mem_singleton.1 hc]; exact hp
 obtain ⟨i,b,i1,i2,i3,i4⟩:=loop Q.length (Nat.le_refl _) fun c hc=>by simp at hc
 refine ⟨Q.drop i,?_,?_,?_,fun c=>?_⟩
 ·unfold b8.f
  rw [hq]
  refine Ev.bind i2.diag ?_
  have hw:av ((Q.length:Int)-(i:Int))=((Q.length-i:Nat):Int):=by rw [aG om om]; omega
  simp only [hw,Int.toNat_natCast,hq,List.length_replicate]
  refine Ev.an ⟨om,om,om⟩ (Ev.an ⟨om,i1⟩ (Ev.of ?_))
  rw [q1,List.drop_of_length_le (l:=List.replicate _ _) (by rw [List.length_replicate]; omega),List.append_nil,List.take_of_length_le (by rw [List.length_drop,List.length_map]; omega),List.map_drop]
 ·refine List.Pairwise.sublist (List.drop_sublist _ _) (q2.imp fun {a b} hab e=>?_)
  subst e; omega
 ·rw [List.length_drop]; omega
 ·rw [← q4]
  constructor
  ·exact fun hc=>⟨List.mem_of_mem_drop hc,i3 c hc⟩
  ·rintro ⟨hc,hn⟩
   rw [← List.take_append_drop i Q] at hc
   rcases List.mem_append.1 hc with hc | hc
   ·exact absurd hn (i4 c hc)
   ·exact hc
structure AZ (h:aP):Prop where
 fw:∀ i,i<h.fl.length→mget h.iU (h.fl.getD i default).dw=some (i:Int)
 bw:∀ key v,mget h.iU key=some v→∃ i:Nat,v=i∧i<h.fl.length∧(h.fl.getD i default).dw=key
 nd:Nd h.iU
structure s6 (h:aP) (i:Nat) (e:dq) (n:Nat) (M:dq→Prop):Prop where
 len:h.fl.length=n
 lt:i<n
 fw:∀ m,m<n→m≠i→mget h.iU (h.fl.getD m default).dw=some (m:Int)
 bw:∀ key v,key≠e.dw→mget h.iU key=some v→∃ m:Nat,v=m∧m<n∧m≠i∧(h.fl.getD m default).dw=key
 ne:∀ m,m<n→m≠i→(h.fl.getD m default).dw≠e.dw
 nd:Nd h.iU
 mem:∀ x,(x=e∨∃ m,m<n∧m≠i∧h.fl.getD m default=x)↔M x
def sV (h:aP) (i:Nat) (x:dq):aP:=⟨h.fl.set i x,mput h.iU x.dw (i:Int)⟩
theorem vW {h:aP} {i:Nat} {x:dq} (hi:i<h.fl.length):dA.f h (i:Int) x=some (sV h i x):=by
 unfold dA.f sV
 simp only [an,Int.toNat_natCast]
 rw [if_pos ⟨om,om⟩]
theorem mI {l:List dq} {x:dq}:x∈l↔∃ m,m<l.length∧l.getD m default=x:=by
 rw [List.mem_iff_getElem?]
 constructor
 ·rintro ⟨i,hi⟩
  obtain ⟨h1,h2⟩:=List.getElem?_eq_some_iff.1 hi
  exact ⟨i,h1,by rw [gD,hi]; rfl⟩
 ·rintro ⟨m,h1,h2⟩
  refine ⟨m,?_⟩
  rw [gD,gE h1] at h2
  rw [gE h1]; exact congrArg some h2
theorem s6.close {h:aP} {i n:Nat} {e:dq} {M:dq→Prop} (H:s6 h i e n M):AZ (sV h i e)∧(sV h i e).fl.length=n∧(∀ x,x∈(sV h i e).fl↔M x)∧(sV h i e).fl.getD i default=e:=by
 obtain ⟨h1,h2,h3,h4,h5,h6,h7⟩:=H
 have hl:(sV h i e).fl.length=n:=by simp [sV,h1]
 have hg:∀ m,(sV h i e).fl.getD m default=if m=i then e else h.fl.getD m default:=fun m=>eg om
 refine ⟨⟨fun m hm=>?_,fun key v hv=>?_,sR h6⟩,hl,fun x=>?_,by rw [hg,if_pos rfl]⟩
 ·rw [hl] at hm
  rw [hg]
  show mget (mput h.iU e.dw (i:Int)) _=_
  rw [fU]
  by_cases e1:m=i
  ·subst e1; simp
  ·rw [if_neg e1,if_neg (fun x=>h5 m hm e1 x.symm)]; exact h3 m hm e1
 ·change mget (mput h.iU e.dw (i:Int)) key=some v at hv
  rw [fU] at hv
  by_cases e1:e.dw=key
  ·rw [if_pos e1] at hv
   cases hv
   exact ⟨i,rfl,om,by rw [hg,if_pos rfl]; exact e1⟩
  ·rw [if_neg e1] at hv
   obtain ⟨m,k1,k2,k3,k4⟩:=h4 key v (fun x=>e1 x.symm) hv
   exact ⟨m,k1,om,by rw [hg,if_neg k3]; exact k4⟩
 ·rw [mI,hl,← h7]
  constructor
  ·rintro ⟨m,k1,k2⟩
   rw [hg] at k2
   by_cases e1:m=i
   ·rw [if_pos e1] at k2; exact .inl k2.symm
   ·rw [if_neg e1] at k2; exact .inr ⟨m,k1,e1,k2⟩
  ·rintro (rfl | ⟨m,k1,k2,k3⟩)
   ·exact ⟨i,h2,by rw [hg,if_pos rfl]⟩
   ·exact ⟨m,k1,by rw [hg,if_neg k2]; exact k3⟩
theorem s6.move {h:aP} {i n p:Nat} {e:dq} {M:dq→Prop} (H:s6 h i e n M) (hp:p<n) (hpi:p≠i):s6 (sV h i (h.fl.getD p default)) p e n M:=by
 obtain ⟨h1,h2,h3,h4,h5,h6,h7⟩:=H
 have hg:∀ m,(sV h i (h.fl.getD p default)).fl.getD m default=if m=i then h.fl.getD p default else h.fl.getD m default:=fun m=>eg om
 refine ⟨by simp [sV,h1],hp,fun m hm hmp=>?_,fun key v hk hv=>?_,fun m hm hmp=>?_,sR h6,fun x=>?_⟩
 ·rw [hg]
  show mget (mput h.iU (h.fl.getD p default).dw (i:Int)) _=_
  rw [fU]
  by_cases e1:m=i
  ·subst e1; simp
  ·rw [if_neg e1,if_neg,h3 m hm e1]
   intro e2
   have k1:=h3 m hm e1
   rw [← e2,h3 p hp hpi] at k1
   have:=Option.some.inj k1
   omega
 ·change mget (mput h.iU (h.fl.getD p default).dw (i:Int)) key=some v at hv
  rw [fU] at hv
  by_cases e1:(h.fl.getD p default).dw=key
  ·rw [if_pos e1] at hv
   cases hv
   exact ⟨i,rfl,h2,fun x=>hpi x.symm,by rw [hg,if_pos rfl]; exact e1⟩
  ·rw [if_neg e1] at hv
   obtain ⟨m,k1,k2,k3,k4⟩:=h4 key v hk hv
   exact ⟨m,k1,k2,fun x=>by subst x; exact e1 k4,by rw [hg,if_neg k3]; exact k4⟩
 ·rw [hg]
  by_cases e1:m=i
  ·rw [if_pos e1]; exact h5 p hp hpi
  ·rw [if_neg e1]; exact h5 m hm e1
 ·rw [← h7]
  constructor
  ·rintro (h8 | ⟨m,k1,k2,k3⟩)
   ·exact .inl h8
   ·rw [hg] at k3
    by_cases e1:m=i
    ·rw [if_pos e1] at k3; exact .inr ⟨p,hp,hpi,k3⟩
    ·rw [if_neg e1] at k3; exact .inr ⟨m,k1,e1,k3⟩
  ·rintro (h8 | ⟨m,k1,k2,k3⟩)
   ·exact .inl h8
   ·by_cases e1:m=p
    ·subst e1; exact .inr ⟨i,h2,fun x=>k2 x.symm,by rw [hg,if_pos rfl]; exact k3⟩
    ·exact .inr ⟨m,k1,e1,by rw [hg,if_neg k2]; exact k3⟩
theorem AZ.inj {h:aP} (H:AZ h) {i j:Nat} (hi:i<h.fl.length) (hj:j<h.fl.length) (e:(h.fl.getD i default).dw=(h.fl.getD j default).dw):i=j:=by
 have h1:=H.fw i hi
 rw [e,H.fw j hj] at h1
 have:=Option.some.inj h1
 omega
theorem AZ.hole {h:aP} (H:AZ h) {i:Nat} (hi:i<h.fl.length):s6 h i (h.fl.getD i default) h.fl.length (·∈h.fl):=by
 refine ⟨rfl,hi,fun m hm _=>H.fw m hm,fun key v hk hv=>?_,fun m hm hmi e=>hmi (H.inj hm hi e),H.nd,fun x=>?_⟩
 ·obtain ⟨m,k1,k2,k3⟩:=H.bw key v hv
  exact ⟨m,k1,k2,fun e=>by subst e; exact hk k3.symm,k3⟩
 ·rw [mI]
  constructor
  ·rintro (rfl | ⟨m,k1,_,k3⟩)
   ·exact ⟨i,hi,rfl⟩
   ·exact ⟨m,k1,k3⟩
  ·rintro ⟨m,k1,k2⟩
   by_cases e:m=i
   ·subst e; exact .inl k2.symm
   ·exact .inr ⟨m,k1,e,k2⟩
def tX (a b:dq):Int:=if nr a.hM b.hM=0 then kc a.dw b.dw else nr a.hM b.hM
theorem oG (a b:dq):Ev (fun k=>heap_ahead.f k a b) (tX a b):=by
 unfold heap_ahead.f
 exact Ev.bind (Ev.of (BN _ _)) (Ev.bind (Ev.of (uX _ _)) (Ev.bind (Dc _ _) Ev.pure))
theorem I7 {x y:Int}:nr x y≤0↔x≤y:=by unfold nr; split <;> (try split) <;> omega
theorem uo {x y:Int}:nr x y=0↔x=y:=by unfold nr; split <;> (try split) <;> omega
def A6 (a b:dq):Prop:=tX a b≤0
theorem zu {a b:dq}:A6 a b↔a.hM<b.hM∨(a.hM=b.hM∧dK b.dw a.dw=false):=by
 unfold A6 tX
 by_cases h:nr a.hM b.hM=0
 ·have e:=uo.1 h
  rw [if_pos h,Cr]
  constructor
  ·intro k; exact .inr ⟨e,k⟩
  ·rintro (k | ⟨_,k⟩)
   ·omega
   ·exact k
 ·have e:¬ a.hM=b.hM:=fun k=>h (uo.2 k)
  rw [if_neg h,I7]
  constructor
  ·intro k; exact .inl om
  ·rintro (k | ⟨k,_⟩)
   ·omega
   ·exact absurd k e
theorem uL (a:dq):A6 a a:=zu.2 (.inr ⟨rfl,iZ _⟩)
theorem qN {a b c:dq} (h:A6 a b) (k:A6 b c):A6 a c:=by
 rw [zu] at *
 rcases h with h | ⟨h,h'⟩ <;> rcases k with k | ⟨k,k'⟩
 ·exact .inl om
 ·exact .inl om
 ·exact .inl om
 ·exact .inr ⟨om,o0 h' k'⟩
theorem Bo {a b:dq} (h:tX a b<0):A6 a b:=by unfold A6; omega
theorem FK {a b:dq} (h:¬ tX a b<0):A6 b a:=by
 rw [zu]
 by_cases h1:b.hM<a.hM
 ·exact .inl h1
 ·have h2:¬ a.hM<b.hM:=fun k=>by
   have e:¬ nr a.hM b.hM=0:=fun k2=>by have:=uo.1 k2; omega
   have e2:nr a.hM b.hM = -1:=by unfold nr; rw [if_pos k]
   apply h; unfold tX; rw [if_neg e,e2]; decide
  have h3:a.hM=b.hM:=om
  refine .inr ⟨h3.symm,?_⟩
  cases e:dK a.dw b.dw with
  | false=>rfl
  | true=>
   exfalso; apply h; unfold tX
   rw [if_pos (uo.2 h3),nq]; exact e
def Ord (l:List dq):Prop:=∀ m,0<m→m<l.length→A6 (l.getD ((m-1)/2) default) (l.getD m default)
structure oY (l:List dq) (i:Nat):Prop where
 u1:∀ m,0<m→m<l.length→m≠i→(m-1)/2≠i→A6 (l.getD ((m-1)/2) default) (l.getD m default)
 u2:0<i→∀ c,0<c→c<l.length→(c-1)/2=i→A6 (l.getD ((i-1)/2) default) (l.getD c default)
def Over (l:List dq) (i:Nat) (e:dq):Prop:=∀ c,0<c→c<l.length→(c-1)/2=i→A6 e (l.getD c default)
def Under (l:List dq) (i:Nat) (e:dq):Prop:=0<i→A6 (l.getD ((i-1)/2) default) e
theorem Ord.hord {l:List dq} (H:Ord l) (i:Nat):oY l i:=⟨fun m h1 h2 _ _=>H m h1 h2,fun h1 c h2 h3 h4=>by
 have a:=H c h2 h3
 rw [h4] at a
 rcases Nat.lt_or_ge i l.length with h | h
 ·exact qN (H i h1 h) a
 ·omega⟩
theorem oY.close {l:List dq} {i:Nat} {e:dq} (H:oY l i) (hi:i<l.length) (ho:Over l i e) (hu:Under l i e):Ord (l.set i e):=by
 intro m h1 h2
 rw [List.length_set] at h2
 rw [eg hi,eg hi]
 by_cases e1:m=i
 ·subst e1
  rw [if_pos rfl,if_neg om]
  exact hu h1
 ·rw [if_neg e1]
  by_cases e2:(m-1)/2=i
  ·rw [if_pos e2]; exact ho m h1 h2 e2
  ·rw [if_neg e2]; exact H.u1 m h1 h2 e1 e2
theorem oY.set {l:List dq} {i:Nat} {e:dq} (H:oY l i) (hi:i<l.length):oY (l.set i e) i:=by
 refine ⟨fun m h1 h2 h3 h4=>?_,fun h1 c h2 h3 h4=>?_⟩
 ·rw [List.length_set] at h2
  rw [eg hi,eg hi,if_neg h3,if_neg h4]; exact H.u1 m h1 h2 h3 h4
 ·rw [List.length_set] at h3
  rw [eg hi,eg hi,if_neg om,if_neg om]; exact H.u2 h1 c h2 h3 h4
theorem Over.set {l:List dq} {i:Nat} {e x:dq} (H:Over l i e) (hi:i<l.length):Over (l.set i x) i e:=fun c h1 h2 h3=>by
 rw [List.length_set] at h2
 rw [eg hi,if_neg om]; exact H c h1 h2 h3
theorem oY.up {l:List dq} {i:Nat} {e:dq} (H:oY l i) (hi:i<l.length) (h0:0<i) (ho:Over l i e) (hl:A6 e (l.getD ((i-1)/2) default)):oY (l.set i (l.getD ((i-1)/2) default)) ((i-1)/2)∧Over (l.set i (l.getD ((i-1)/2) default)) ((i-1)/2) e:=by
 refine ⟨⟨fun m h1 h2 h3 h4=>?_,fun h1 c h2 h3 h4=>?_⟩,fun c h2 h3 h4=>?_⟩
 ·rw [List.length_set] at h2
  rw [eg hi,eg hi]
  have e1:m≠i:=fun e=>by subst e; exact h4 rfl
  rw [if_neg e1]
  by_cases e2:(m-1)/2=i
  ·rw [if_pos e2]; exact H.u2 h0 m h1 h2 e2
  ·rw [if_neg e2]; exact H.u1 m h1 h2 e1 e2
 ·rw [List.length_set] at h3
  rw [eg hi,eg hi,if_neg om]
  have hp:=H.u1 ((i-1)/2) h1 om om om
  by_cases e1:c=i
  ·rw [if_pos e1]; exact hp
  ·rw [if_neg e1]
   have:=H.u1 c h2 h3 e1 om
   rw [h4] at this
   exact qN hp this
 ·rw [List.length_set] at h3
  rw [eg hi]
  by_cases e1:c=i
  ·rw [if_pos e1]; exact hl
  ·rw [if_neg e1]
   have:=H.u1 c h2 h3 e1 om
   rw [h4] at this
   exact qN hl this
theorem oY.down {l:List dq} {i k:Nat} {e:dq} (H:oY l i) (hi:i<l.length) (hk:k<l.length) (hki:k=2*i+1∨k=2*i+2) (hmin:∀ c,c<l.length→(c=2*i+1∨c=2*i+2)→A6 (l.getD k default) (l.getD c default)):oY (l.set i (l.getD k default)) k:=by
 refine ⟨fun m h1 h2 h3 h4=>?_,fun h1 c h2 h3 h4=>?_⟩
 ·rw [List.length_set] at h2
  rw [eg hi,eg hi]
  by_cases e1:m=i
  ·subst e1
   rw [if_pos rfl,if_neg om]
   exact H.u2 h1 k om hk om
  ·rw [if_neg e1]
   by_cases e2:(m-1)/2=i
   ·rw [if_pos e2]; exact hmin m h2 om
   ·rw [if_neg e2]; exact H.u1 m h1 h2 e1 e2
 ·rw [List.length_set] at h3
  rw [eg hi,eg hi,if_pos om,if_neg om]
  have:=H.u1 c h2 h3 om om
  rw [h4] at this
  exact this
section
variable {a0:aP} {a1:Int} {n:Nat} {M:dq→Prop}
theorem Ek (hn:n≤1000000):∀ (d i:Nat) (h:aP),n-i≤d→s6 h i (a0.fl.getD a1.toNat default) n M→oY h.fl i→∃ i' h' q1 q2 q3,s6 h' i' (a0.fl.getD a1.toNat default) n M∧oY h'.fl i'∧Over h'.fl i' (a0.fl.getD a1.toNat default)∧El (fun k j=>heap_Heap_down.l0 k a0 a1 j (i:Int) h) ((i':Int),q1,q2,q3,h'):=by
 intro d
 induction d with
 | zero=>intro i h hd H; have:=H.lt; omega
 | succ d ih=>
  intro i h hd H O
  have hlen:=H.len
  have hlt:=H.lt
  have w1:av (2*(i:Int))=((2*i:Nat):Int):=by rw [aG om om]; omega
  have w2:av (((2*i:Nat):Int)+1)=((2*i+1:Nat):Int):=by rw [aG om om]; omega
  have w3:av (((2*i+1:Nat):Int)+1)=((2*i+2:Nat):Int):=by rw [aG om om]; omega
  have hk:∃ (kk:Nat) (q:Bool),(kk=2*i+1∨(kk=2*i+2∧kk<n))∧(kk<n→∀ c,c<n→(c=2*i+1∨c=2*i+2)→A6 (h.fl.getD kk default) (h.fl.getD c default))∧Ev (fun k=>cond (decide (((2*i+2:Nat):Int)<(h.fl.length:Int))) (an ((0:Int)≤((2*i+2:Nat):Int)∧((2*i+2:Nat):Int)<(h.fl.length:Int)) (an ((0:Int)≤((2*i+1:Nat):Int)∧((2*i+1:Nat):Int)<(h.fl.length:Int)) ((heap_ahead.f k (h.fl.getD (((2*i+2:Nat):Int).toNat) default) (h.fl.getD (((2*i+1:Nat):Int).toNat) default)).bind fun t737=>cond (decide (t737<0)) (some (((2*i+2:Nat):Int),decide (t737<0))) (some (((2*i+1:Nat):Int),decide (t737<0)))))) (some (((2*i+1:Nat):Int),false))) ((kk:Int),q):=by
   by_cases h1:2*i+2<n
   ·by_cases h2:tX (h.fl.getD (((2*i+2:Nat):Int).toNat) default) (h.fl.getD (((2*i+1:Nat):Int).toNat) default)<0
    ·refine ⟨2*i+2,decide (_<0),.inr ⟨rfl,h1⟩,fun _ c hc hc2=>?_,Ev.ct (dT om) (Ev.an ⟨om,om⟩ (Ev.an ⟨om,om⟩ (Ev.bind (oG _ _) (Ev.ct (dT h2) Ev.pure))))⟩
     rcases hc2 with rfl | rfl
     ·exact Bo h2
     ·exact uL _
    ·refine ⟨2*i+1,decide (_<0),.inl rfl,fun _ c hc hc2=>?_,Ev.ct (dT om) (Ev.an ⟨om,om⟩ (Ev.an ⟨om,om⟩ (Ev.bind (oG _ _) (Ev.cf (dF h2) Ev.pure))))⟩
     rcases hc2 with rfl | rfl
     ·exact uL _
     ·exact FK h2
   ·refine ⟨2*i+1,false,.inl rfl,fun _ c hc hc2=>?_,Ev.cf (dF om) Ev.pure⟩
    rcases hc2 with rfl | rfl
    ·exact uL _
    ·omega
  obtain ⟨kk,q,hkk,hmin,hev⟩:=hk
  by_cases h1:n≤kk
  ·refine ⟨i,h,(kk:Int),q,true,H,O,fun c c1 c2 c3=>om,?_⟩
   refine El.step (fun _ _=>by rw [heap_Heap_down.l0]) ?_
   simp only [w1,w2,w3]
   exact El.bind hev.el (El.ct (dT om) El.pure)
  ·by_cases h2:tX (a0.fl.getD a1.toNat default) (h.fl.getD ((kk:Int).toNat) default)<0
   ·refine ⟨i,h,(kk:Int),q,decide (tX (a0.fl.getD a1.toNat default) (h.fl.getD ((kk:Int).toNat) default)<0),H,O,fun c c1 c2 c3=>qN (Bo h2) (hmin om c om om),?_⟩
    refine El.step (fun _ _=>by rw [heap_Heap_down.l0]) ?_
    simp only [w1,w2,w3]
    exact El.bind hev.el (El.cf (dF om) (El.an ⟨om,om⟩ (El.bind (oG _ _).el (El.ct (dT h2) El.pure))))
   ·have H2:=H.move (p:=kk) om om
    have O2:=O.down (e:=default) om (k:=kk) om om (fun c c1 c2=>hmin om c om c2)
    obtain ⟨i',h',q1,q2,q3,k1,k2,k3,k4⟩:=ih kk _ om H2 O2
    refine ⟨i',h',q1,q2,q3,k1,k2,k3,?_⟩
    refine El.step (fun _ _=>by rw [heap_Heap_down.l0]) ?_
    simp only [w1,w2,w3]
    refine El.bind hev.el (El.cf (dF om) (El.an ⟨om,om⟩ (El.bind (oG _ _).el (El.cf (dF h2) (El.an ⟨om,om⟩ (El.bind (Ev.el (Ev.of (vW om))) ?_))))))
    rw [Int.toNat_natCast]
    exact k4
theorem Iu (hn:n≤1000000):∀ (i:Nat) (h:aP),s6 h i (a0.fl.getD a1.toNat default) n M→oY h.fl i→Over h.fl i (a0.fl.getD a1.toNat default)→∃ i' h' q1,s6 h' i' (a0.fl.getD a1.toNat default) n M∧Ord (sV h' i' (a0.fl.getD a1.toNat default)).fl∧El (fun k j=>cZ.l0 k a0 a1 j (i:Int) h) ((i':Int),q1,h'):=by
 intro i
 induction i using Nat.strongRecOn with
 | _ i ih=>
  intro h H O V
  have hlen:=H.len
  have hlt:=H.lt
  by_cases h0:0<i
  ·have w1:av ((av ((i:Int)-1)).tdiv 2)=(((i-1)/2:Nat):Int):=by
    rw [aG (x:=(i:Int)-1) om om,Int.tdiv_eq_ediv_of_nonneg om,aG om om]; omega
   by_cases h2:tX (a0.fl.getD a1.toNat default) (h.fl.getD ((((i-1)/2:Nat):Int).toNat) default)<0
   ·have H2:=H.move (p:=(i-1)/2) om om
    have O2:=O.up om h0 V (Bo h2)
    obtain ⟨i',h',q1,k1,k2,k3⟩:=ih ((i-1)/2) om _ H2 O2.1 O2.2
    refine ⟨i',h',q1,k1,k2,?_⟩
    refine El.step (fun _ _=>by rw [cZ.l0]) ?_
    simp only [w1]
    refine El.ct (dT om) (El.an ⟨om,om⟩ (El.bind (oG _ _).el (El.ct (dT h2) (El.an ⟨om,om⟩ (El.bind (Ev.el (Ev.of (vW om))) ?_)))))
    rw [Int.toNat_natCast]
    exact k3
   ·refine ⟨i,h,decide (tX (a0.fl.getD a1.toNat default) (h.fl.getD ((((i-1)/2:Nat):Int).toNat) default)<0),H,O.close om V (fun _=>FK h2),?_⟩
    refine El.step (fun _ _=>by rw [cZ.l0]) ?_
    simp only [w1]
    exact El.ct (dT om) (El.an ⟨om,om⟩ (El.bind (oG _ _).el (El.cf (dF h2) El.pure)))
  ·refine ⟨i,h,false,H,O.close om V (fun k=>absurd k h0),?_⟩
   refine El.step (fun _ _=>by rw [cZ.l0]) ?_
   exact El.cf (dF om) El.pure
end
theorem Hy {h:aP} {i:Nat} (H:AZ h) (hn:h.fl.length≤1000000) (hi:i<h.fl.length) (O:oY h.fl i):∃ h' j,Ev (fun k=>heap_Heap_down.f k h (i:Int)) h'∧AZ h'∧h'.fl.length=h.fl.length∧(∀ x,x∈h'.fl↔x∈h.fl)∧j<h'.fl.length∧h'.fl.getD j default=h.fl.getD i default∧oY h'.fl j∧Over h'.fl j (h.fl.getD i default):=by
 have H1:=H.hole hi
 obtain ⟨i',h',q1,q2,q3,k1,o1,o2,k2⟩:=Ek (a0:=h) (a1:=(i:Int)) hn h.fl.length i h om (by rw [Int.toNat_natCast]; exact H1) O
 obtain ⟨c1,c2,c3,c4⟩:=k1.close
 have hl:=k1.len
 have hlt:=k1.lt
 refine ⟨_,i',?_,c1,c2,c3,om,c4,o1.set om,o2.set om⟩
 unfold heap_Heap_down.f
 exact Ev.an ⟨om,om⟩ (Ev.bind k2.diag (Ev.bind (Ev.of (vW (h:=h') (i:=i') om)) Ev.pure))
theorem J3 {h:aP} {i:Nat} {e:dq} {n:Nat} {M:dq→Prop} (he:h.fl.getD i default=e) (H1:s6 h i e n M) (hn:n≤1000000) (O:oY h.fl i) (V:Over h.fl i e):∃ h',Ev (fun k=>cZ.f k h (i:Int)) h'∧AZ h'∧h'.fl.length=n∧(∀ x,x∈h'.fl↔M x)∧Ord h'.fl:=by
 subst he
 obtain ⟨i',h',q1,k1,o1,k2⟩:=Iu (a0:=h) (a1:=(i:Int)) hn i h (by rw [Int.toNat_natCast]; exact H1) O (by rw [Int.toNat_natCast]; exact V)
 obtain ⟨c1,c2,c3,_⟩:=k1.close
 refine ⟨_,?_,c1,c2,c3,o1⟩
 unfold cZ.f
 have hl:=k1.len
 have hlt:=k1.lt
 have hl1:=H1.len
 have hlt1:=H1.lt
 exact Ev.an ⟨om,om⟩ (Ev.bind k2.diag (Ev.bind (Ev.of (vW (h:=h') (i:=i') om)) Ev.pure))
theorem iq {l:List dq} {n m:Nat} (h:m<n):(l.take n).getD m default=l.getD m default:=by
 simp [gD,List.getElem?_take,h]
theorem Ord.take {l:List dq} (O:Ord l) (n:Nat):Ord (l.take n):=fun m h1 h2=>by
 rw [List.length_take] at h2
 rw [iq om,iq om]; exact O m h1 om
theorem yo {h:aP} (H:AZ h) (O:Ord h.fl) (hn:h.fl.length≤1000000) (key:BA):
  ∃ h',Ev (fun k=>dt.f k h key) ((mget h.iU key).isSome,h')∧AZ h'∧h'.fl.length=h.fl.length-(if (mget h.iU key).isSome then 1 else 0)∧(∀ x,x∈h'.fl↔x∈h.fl∧x.dw≠key)∧Ord h'.fl:=by
 cases hk:mget h.iU key with
 | none=>
  refine ⟨h,?_,H,sM,fun x=>⟨fun hx=>⟨hx,fun e=>?_⟩,fun hx=>hx.1⟩,O⟩
  ·unfold dt.f
   rw [hk]
   exact Ev.ct rfl Ev.pure
  ·obtain ⟨m,h1,h2⟩:=mI.1 hx
   have:=H.fw m h1
   rw [h2,e,hk] at this; cases this
 | some v=>
  obtain ⟨i,rfl,hi,hik⟩:=H.bw key v hk
  generalize hN:h.fl.length=n at hn hi ⊢
  have w1:av ((n:Int)-1)=((n-1:Nat):Int):=by rw [aG om om]; omega
  have e1:(h.fl.take (n-1)).drop 0=h.fl.take (n-1):=List.drop_zero
  have hl:(h.fl.take (n-1)).length=n-1:=by rw [List.length_take,hN]; omega
  have hinj:∀ {p q:Nat},p<n→q<n→(h.fl.getD p default).dw=(h.fl.getD q default).dw→p=q:=fun hp hq e=>H.inj om om e
  unfold dt.f
  rw [hk,hN,w1,Int.toNat_natCast,e1]
  by_cases hlt:i<n-1
  ·have Ho:s6 ⟨h.fl.take (n-1),l6 h.iU key⟩ i (h.fl.getD (n-1) default) (n-1) (fun x=>x∈h.fl∧x.dw≠key):=by
    refine ⟨hl,hlt,fun m hm hmi=>?_,fun key' v hk' hv=>?_,fun m hm hmi e=>?_,Gv H.nd,fun x=>?_⟩
    ·show mget (l6 h.iU key) ((h.fl.take (n-1)).getD m default).dw=_
     rw [iq hm,oF H.nd,if_neg (fun e=>hmi (hinj om hi (by rw [← e,hik])))]
     exact H.fw m om
    ·change mget (l6 h.iU key) key'=some v at hv
     rw [oF H.nd] at hv
     by_cases e2:key=key'
     ·rw [if_pos e2] at hv; cases hv
     ·rw [if_neg e2] at hv
      obtain ⟨m,k1,k2,k3⟩:=H.bw key' v hv
      have k4:m≠n-1:=fun e=>hk' (by rw [← k3,e])
      refine ⟨m,k1,om,fun e=>e2 (by rw [← hik,← k3,e]),?_⟩
      show ((h.fl.take (n-1)).getD m default).dw=_
      rw [iq om]; exact k3
    ·change ((h.fl.take (n-1)).getD m default).dw=_ at e
     rw [iq hm] at e
     have:=hinj om om e
     omega
    ·show (_∨∃ m,m<n-1∧m≠i∧(h.fl.take (n-1)).getD m default=x)↔_
     rw [mI,hN]
     constructor
     ·rintro (rfl | ⟨m,k1,k2,k3⟩)
      ·exact ⟨⟨n-1,om,rfl⟩,fun e=>by have:=hinj om hi (e.trans hik.symm); omega⟩
      ·rw [iq k1] at k3
       exact ⟨⟨m,om,k3⟩,fun e=>k2 (hinj om hi (by rw [k3,e,hik]))⟩
     ·rintro ⟨⟨m,k1,k2⟩,k3⟩
      by_cases e2:m=n-1
      ·subst e2; exact .inl k2.symm
      ·exact .inr ⟨m,om,fun e=>k3 (by rw [← k2,e,hik]),by rw [iq om]; exact k2⟩
   obtain ⟨c1,c2,c3,c4⟩:=Ho.close
   obtain ⟨h2,j,d1,d2,d3,d4,j1,j2,o1,o2⟩:=Hy c1 om (i:=i) om (((O.take (n-1)).hord i).set om)
   rw [c4] at j2 o2
   have j3:=d2.fw j j1
   rw [j2] at j3
   obtain ⟨h3,u1,u2,u3,u4,u5⟩:=J3 rfl (d2.hole j1) om o1 (by rw [j2]; exact o2)
   refine ⟨h3,?_,u2,by simp only [Option.isSome_some,if_true]; omega,fun x=>by rw [u4,d4,c3],u5⟩
   refine Ev.cf rfl (Ev.an ⟨om,om⟩ (Ev.an ⟨om,om,om⟩ (Ev.ct (dT (by simp only [Option.getD_some]; omega)) ?_)))
   simp only [Option.getD_some]
   refine Ev.bind (Ev.of (vW (by rw [hl]; exact hlt))) (Ev.bind d1 ?_)
   rw [j3]
   exact Ev.bind u1 Ev.pure
  ·obtain rfl:i=n-1:=om
   refine ⟨⟨h.fl.take (n-1),l6 h.iU key⟩,Ev.cf rfl (Ev.an ⟨om,om⟩ (Ev.an ⟨om,om,om⟩ (Ev.cf (dF (by simp only [Option.getD_some]; omega)) Ev.pure))),⟨fun m hm=>?_,fun key' v hv=>?_,Gv H.nd⟩,by rw [hl]; simp,fun x=>?_,O.take _⟩
   ·change m<(h.fl.take (n-1)).length at hm
    rw [hl] at hm
    show mget (l6 h.iU key) ((h.fl.take (n-1)).getD m default).dw=_
    rw [iq hm,oF H.nd,if_neg (fun e=>by have:=hinj (p:=m) (q:=n-1) om hi (by rw [← e,hik]); omega)]
    exact H.fw m om
   ·change mget (l6 h.iU key) key'=some v at hv
    rw [oF H.nd] at hv
    by_cases e2:key=key'
    ·rw [if_pos e2] at hv; cases hv
    ·rw [if_neg e2] at hv
     obtain ⟨m,k1,k2,k3⟩:=H.bw key' v hv
     have k4:m≠n-1:=fun e=>e2 (by rw [← hik,← k3,e])
     refine ⟨m,k1,by show m<(h.fl.take (n-1)).length; omega,?_⟩
     show ((h.fl.take (n-1)).getD m default).dw=_
     rw [iq om]; exact k3
   ·show x∈h.fl.take (n-1)↔_
    rw [mI,mI,hl,hN]
    constructor
    ·rintro ⟨m,k1,k2⟩
     rw [iq k1] at k2
     exact ⟨⟨m,om,k2⟩,fun e=>by have:=hinj (p:=m) (q:=n-1) om hi (by rw [k2,e,hik]); omega⟩
    ·rintro ⟨⟨m,k1,k2⟩,k3⟩
     have k4:m≠n-1:=fun e=>k3 (by rw [← k2,e,hik])
     exact ⟨m,om,by rw [iq om]; exact k2⟩
theorem mJ {l:List dq} {x:dq} {m:Nat}:(l++[x]).getD m default=if m<l.length then l.getD m default else if m=l.length then x else default:=by
 simp only [gD,List.getElem?_append]
 by_cases h:m<l.length
 ·simp [h]
 ·rw [if_neg h,if_neg h]
  by_cases h2:m=l.length
  ·subst h2; simp
  ·rw [if_neg h2,List.getElem?_eq_none (by simp; omega)]; rfl
theorem G4 {h:aP} (H:AZ h) (O:Ord h.fl) (hn:h.fl.length≤100000) (at_:Int) (key:BA):
  ∃ h',Ev (fun k=>eW.f k h at_ key) h'∧AZ h'∧h'.fl.length=h.fl.length+1-(if (mget h.iU key).isSome then 1 else 0)∧(∀ x,x∈h'.fl↔x=⟨at_,key⟩∨(x∈h.fl∧x.dw≠key))∧Ord h'.fl:=by
 obtain ⟨h1,d1,d2,d3,d4,d5⟩:=yo H O om key
 have hl:h1.fl.length≤h.fl.length:=om
 have hd:(if (mget h.iU key).isSome then 1 else 0)≤h.fl.length:=by
  cases hk:mget h.iU key with
  | none=>simp
  | some v=>obtain ⟨i,_,hi,_⟩:=H.bw key v hk; simp; omega
 have w1:av (((h1.fl++([(⟨at_,key⟩:dq)]:List dq)).length:Int)-1)=((h1.fl.length:Nat):Int):=by
  rw [List.length_append,List.length_singleton,aG om om]; omega
 have hne:∀ m,m<h1.fl.length→(h1.fl.getD m default).dw≠key:=fun m hm=>((d4 _).1 (mI.2 ⟨m,hm,rfl⟩)).2
 have Ho:s6 ⟨h1.fl++[⟨at_,key⟩],h1.iU⟩ h1.fl.length ⟨at_,key⟩ (h1.fl.length+1) (fun x=>x=⟨at_,key⟩∨(x∈h.fl∧x.dw≠key)):=by
  refine ⟨sM,om,fun m hm hmi=>?_,fun key' v hk' hv=>?_,fun m hm hmi=>?_,d2.nd,fun x=>?_⟩
  ·show mget h1.iU ((h1.fl++[_]).getD m default).dw=_
   rw [mJ,if_pos om]; exact d2.fw m om
  ·obtain ⟨m,k1,k2,k3⟩:=d2.bw key' v hv
   refine ⟨m,k1,om,om,?_⟩
   show ((h1.fl++[_]).getD m default).dw=_
   rw [mJ,if_pos k2]; exact k3
  ·show ((h1.fl++[_]).getD m default).dw≠_
   rw [mJ,if_pos om]; exact hne m om
  ·rw [← d4,mI]
   constructor
   ·rintro (h8 | ⟨m,k1,k2,k3⟩)
    ·exact .inl h8
    ·change (h1.fl++[_]).getD m default=x at k3
     rw [mJ,if_pos om] at k3
     exact .inr ⟨m,om,k3⟩
   ·rintro (h8 | ⟨m,k1,k2⟩)
    ·exact .inl h8
    ·refine .inr ⟨m,om,om,?_⟩
     show (h1.fl++[_]).getD m default=x
     rw [mJ,if_pos k1]; exact k2
 have O2:oY (h1.fl++[⟨at_,key⟩]) h1.fl.length:=by
  refine ⟨fun m m1 m2 m3 m4=>?_,fun m1 c c1 c2 c3=>?_⟩
  ·rw [List.length_append,List.length_singleton] at m2
   rw [mJ,mJ,if_pos om,if_pos om]
   exact d5 m m1 om
  ·rw [List.length_append,List.length_singleton] at c2; omega
 have V2:Over (h1.fl++[⟨at_,key⟩]) h1.fl.length ⟨at_,key⟩:=fun c c1 c2 c3=>by
  rw [List.length_append,List.length_singleton] at c2; omega
 obtain ⟨h2,u1,u2,u3,u4,u5⟩:=J3 (by show (h1.fl++[_]).getD _ default=_; rw [mJ,if_neg om,if_pos rfl]) Ho om O2 V2
 refine ⟨h2,?_,u2,om,u4,u5⟩
 unfold eW.f
 refine Ev.bind d1 (Ev.an ⟨by simp; omega,by simp; omega⟩ ?_)
 rw [w1]
 exact Ev.bind u1 Ev.pure
theorem CH:Ord []:=fun m h1 h2=>by simp at h2
theorem CK:AZ ⟨[],[]⟩:=⟨fun i hi=>by simp at hi,fun key v hv=>(by cases hv),zw⟩
end Go.Proofs.YtfknmdelgepbjaaGreatDoor
