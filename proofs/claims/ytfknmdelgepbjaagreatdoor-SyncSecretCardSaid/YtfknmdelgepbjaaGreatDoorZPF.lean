import Derived.Test.YtfknmdelgepbjaaGreatDoorZYA
import Derived.Test.YtfknmdelgepbjaaGreatDoorZPX
set_option linter.all false
set_option maxRecDepth 10000
namespace Go.Proofs.YtfknmdelgepbjaaGreatDoor
open Go Go.Sp
inductive Cx where
 | m (x:bx)
 | r (s:BA)
 | u (s:BA)
 deriving DecidableEq,Inhabited
def Cx.chg:Cx→kZ
 | .m x=>⟨1,x,⟨#[]⟩⟩
 | .r s=>⟨2,⟨⟨#[]⟩,⟨#[]⟩,⟨#[]⟩,false⟩,s⟩
 | .u s=>⟨3,⟨⟨#[]⟩,⟨#[]⟩,⟨#[]⟩,false⟩,s⟩
def Cx.key:Cx→BA
 | .m x=>nw x
 | .r s=>C3 s
 | .u s=>DT s
def Cx.dyn:Cx→jw
 | .m x=>.d89 x
 | .r s=>.d141 s
 | .u s=>.d143 s
def Cx.ok:Cx→Prop
 | .m x=>Kx x
 | .r s=>s∈jC
 | .u s=>s∈lP
theorem Cx.BD {c:Cx} (h:c.ok):kj.f c.chg=some c.key:=by
 cases c with
 | m x=>exact (A0 h).2.1
 | r s=>exact (Az s h).2.1
 | u s=>exact (zZ s h).2.1
theorem Cx.of {c:Cx} (h:c.ok):Ev (fun k=>mU.f k c.key) c.dyn:=by
 cases c with
 | m x=>exact HQ h
 | r s=>exact G9 s h
 | u s=>exact HJ s h
theorem Cx.inj {a b:Cx} (ha:a.ok) (hb:b.ok) (h:a.key=b.key):a=b:=by
 have h1:=Cx.of ha
 rw [h] at h1
 have h2:=h1.uniq (Cx.of hb)
 cases a <;> cases b <;> simp_all [Cx.dyn]
theorem Hl {α:Type} {P:List α→Prop} (h0:P []) (h1:∀ Y x,P Y→P (Y++[x])) (Z:List α):P Z:=by
 have:∀ n (Z:List α),Z.length=n→P Z:=by
  intro n
  induction n with
  | zero=>intro Z h; rw [List.length_eq_zero_iff.1 h]; exact h0
  | succ n ih=>
   intro Z h
   rcases List.eq_nil_or_concat Z with rfl | ⟨Y,x,rfl⟩
   ·exact h0
   ·rw [List.concat_eq_append] at h ⊢
    exact h1 Y x (ih Y (by simpa using h))
 exact this _ Z rfl
section
variable {α:Type} [DecidableEq α]
def kX (Z:List α) (c:α):Nat:=(Z.foldl (fun (s:Nat×Nat) x=>(s.1+1,if x=c then s.1+1 else s.2)) (0,0)).2
theorem xP (c:α):∀ (Z:List α) (s:Nat×Nat),(Z.foldl (fun (s:Nat×Nat) x=>(s.1+1,if x=c then s.1+1 else s.2)) s).1=s.1+Z.length
 | [],s=>rfl
 | x::Z,s=>by rw [List.foldl_cons,xP c Z]; simp; omega
theorem kW (Z:List α) (x c:α):kX (Z++[x]) c=if x=c then Z.length+1 else kX Z c:=by
 unfold kX
 rw [List.foldl_append,List.foldl_cons,List.foldl_nil]
 simp only [xP,Nat.zero_add]
theorem Dg (c:α):kX ([]:List α) c=0:=rfl
theorem Fy (c:α) (Z:List α):kX Z c≤Z.length:=by
 induction Z using Hl with
 | h0=>exact Nat.le_refl _
 | h1 Y x ih=>
  rw [kW,List.length_append,List.length_singleton]
  split <;> omega
theorem C8 (c:α) (Z:List α):0<kX Z c↔c∈Z:=by
 induction Z using Hl with
 | h0=>simp [Dg]
 | h1 Y x ih=>
  rw [kW,List.mem_append,List.mem_singleton]
  by_cases e:x=c
  ·rw [if_pos e]; exact ⟨fun _=>.inr e.symm,fun _=>om⟩
  ·rw [if_neg e,ih]; exact ⟨.inl,fun h=>h.elim id fun h=>absurd h.symm e⟩
end
theorem Gm {l:List BA} {m:Nat} (h:m<l.length):aH.at l (m:Int)=l[m]:=by
 unfold Kd.at; rw [Int.toNat_natCast]; simp [h]
structure DS (d:cH) (Z:List Cx) (from_:Int):Prop where
 fr:0≤from_∧from_≤1000000
 at_:d.iH.fn.fv=from_+(Z.length:Int)
 FZ:d.iH.dU=from_+1000
 ok:∀ c∈Z,c.ok
 keys:∃ Q:List Cx,d.eI=Q.map Cx.key∧Q.Pairwise (fun a b=>kX Z a<kX Z b)∧Q.length≤Z.length∧∀ c,c∈Q↔c∈Z
 pos:∀ c,c.ok→mget d.nZ c.key=if c∈Z then some (from_+(kX Z c:Int)) else none
theorem Fi {from_:Int} (h:0≤from_∧from_≤1000000):DS ⟨⟨⟨from_⟩,from_+1000⟩,[],[]⟩ [] from_:=⟨h,sM,rfl,fun c h=>(by cases h),⟨[],rfl,List.Pairwise.nil,Nat.le_refl _,fun _=>Iff.rfl⟩,fun c _=>rfl⟩
theorem Dt {k:BA}:∀ (B A:List BA),(∀ a∈A,a≠k)→(A++k::B).length≤1000→Ev (fun n=>bA.f n (A++k::B) k) (A.length:Int):=by
 intro B A hA hl
 have loop:∀ n x:Nat,A.length-x=n→x≤A.length→El (fun n j=>bA.l0 n (A++k::B) k j (x:Int)) (.inr (A.length:Int)):=by
  intro n
  induction n with
  | zero=>
   intro x hd hx
   obtain rfl:x=A.length:=om
   have hlt:A.length<(A++k::B).length:=sM
   refine El.step (fun _ _=>by rw [bA.l0]) ?_
   refine El.ct (dT om) (El.an ⟨om,om⟩ (El.ct (dT ?_) El.pure))
   rw [Gm hlt]; simp
  | succ n ih=>
   intro x hd hx
   have hlt:x<(A++k::B).length:=by simp; omega
   have hA2:x<A.length:=om
   refine El.step (fun _ _=>by rw [bA.l0]) ?_
   refine El.ct (dT om) (El.an ⟨om,om⟩ (El.cf (dF ?_) ?_))
   ·rw [Gm hlt,List.getElem_append_left hA2]; exact fun e=>hA _ (List.getElem_mem hA2) e.symm
   ·rw [aP om om]; exact ih (x+1) om om
 unfold bA.f
 exact Ev.bind (loop _ 0 rfl om).diag (by simp only [fall]; exact Ev.pure)
theorem wq {d:cH} {Z:List Cx} {from_:Int} (h:DS d Z from_) (hl:Z.length≤900) {c:Cx} (hc:c.ok):∃ d',Ev (fun k=>ie.f k d c.key) (from_+((Z.length+1:Nat):Int),0,d')∧DS d' (Z++[c]) from_:=by
 obtain ⟨f1,f2⟩:=h.fr
 have hat:=h.at_
 have hmo:=h.FZ
 have hn:Ev (fun k=>fm.f k d.iH) (from_+((Z.length+1:Nat):Int),0,⟨⟨from_+((Z.length+1:Nat):Int)⟩,d.iH.dU⟩):=by
  suffices ha:Ev (fun k=>clock_Counter_Add.f k d.iH 1) (from_+((Z.length+1:Nat):Int),0,⟨⟨from_+((Z.length+1:Nat):Int)⟩,d.iH.dU⟩) by
   unfold fm.f; exact Ev.bind ha Ev.pure
  unfold clock_Counter_Add.f
  refine Ev.cf rfl (Ev.add 1 fun m=>?_)
  rw [clock_Counter_Add.l0]
  have e1:(d.iH.fn.fv==d.iH.dU)=false:=by rw [beq_eq_false_iff_ne]; omega
  have e2:aw (d.iH.dU-d.iH.fn.fv)=d.iH.dU-d.iH.fn.fv:=aP om om
  have e3:decide ((1:Int)<d.iH.dU-d.iH.fn.fv)=true:=by rw [decide_eq_true_iff]; omega
  have e4:aw (d.iH.fn.fv+1)=from_+((Z.length+1:Nat):Int):=by rw [aP om om]; omega
  rw [show decide ((0:Int)<1)=true from rfl,e1,e2,e3,e4]
  rfl
 obtain ⟨Q,q1,q2,q3,q4⟩:=h.keys
 have hlt:∀ a∈Q,kX (Z++[c]) a=if c=a then Z.length+1 else kX Z a:=fun a _=>kW Z c a
 have mk:∀ Q':List Cx,Q'.Sublist Q→(∀ a,a∈Q'↔a∈Q∧a≠c)→DS ⟨⟨⟨from_+((Z.length+1:Nat):Int)⟩,d.iH.dU⟩,Q'.map Cx.key++[c.key],mput d.nZ c.key (from_+((Z.length+1:Nat):Int))⟩ (Z++[c]) from_:=fun Q' hs hm=>by
  refine ⟨h.fr,?_,h.FZ,fun a ha=>?_,⟨Q'++[c],sM,?_,?_,fun a=>?_⟩,fun a ha=>?_⟩
  ·show from_+((Z.length+1:Nat):Int)=_; rw [List.length_append,List.length_singleton]
  ·rcases List.mem_append.1 ha with ha | ha
   ·exact h.ok a ha
   ·rw [List.mem_singleton.1 ha]; exact hc
  ·refine List.pairwise_append.2 ⟨(q2.sublist hs).imp_of_mem fun {a b} ha hb hab=>?_,List.pairwise_singleton _ _,fun a ha b hb=>?_⟩
   ·rw [kW,kW,if_neg fun e=>((hm a).1 ha).2 e.symm,if_neg fun e=>((hm b).1 hb).2 e.symm]; exact hab
   ·rw [List.mem_singleton.1 hb,kW,kW,if_neg fun e=>((hm a).1 ha).2 e.symm,if_pos rfl]
    have:=Fy a Z; omega
  ·have:=hs.length_le; rw [List.length_append,List.length_append,List.length_singleton]; simp; omega
  ·rw [List.mem_append,List.mem_append,hm,q4,List.mem_singleton]
   by_cases e:a=c <;> simp [e]
  ·show mget (mput _ _ _) _=_
   rw [fG,kW]
   by_cases e:c=a
   ·subst e; rw [if_pos rfl,if_pos rfl,if_pos sM]
   ·rw [if_neg fun k=>e (Cx.inj hc ha k),h.pos a ha,if_neg e]
    by_cases k:a∈Z
    ·rw [if_pos k,if_pos (by simp [k])]
    ·rw [if_neg k,if_neg (by simp [k,Ne.symm e])]
 have hp:=h.pos c hc
 unfold ie.f
 by_cases hz:c∈Z
 ·rw [if_pos hz] at hp
  obtain ⟨A,B,hab⟩:=List.append_of_mem ((q4 c).2 hz)
  have hnd:∀ a∈A++B,a≠c:=fun a ha e=>by
   subst e
   rw [hab] at q2
   have q5:=List.pairwise_append.1 q2
   have q6:=List.pairwise_cons.1 q5.2.1
   rcases List.mem_append.1 ha with ha | ha
   ·have:=q5.2.2 a ha a List.mem_cons_self; omega
   ·have:=q6.1 a ha; omega
  have hQ:=mk (A++B) (by rw [hab]; exact List.Sublist.append (List.Sublist.refl _) (List.sublist_cons_self _ _)) fun a=>by
   rw [hab]; constructor
   ·exact fun ha=>⟨by rcases List.mem_append.1 ha with k | k <;> simp [k],hnd a ha⟩
   ·rintro ⟨ha,hne⟩; simp only [List.mem_append,List.mem_cons] at ha ⊢
    rcases ha with k | k | k
    ·exact .inl k
    ·exact absurd k hne
    ·exact .inr k
  have hi:Ev (fun n=>bA.f n d.eI c.key) (A.length:Int):=by
   have:=Dt (k:=c.key) (B.map Cx.key) (A.map Cx.key) (fun a ha e=>by
    obtain ⟨x,x1,rfl⟩:=List.mem_map.1 ha
    have hxQ:x∈Q:=by rw [hab]; simp [x1]
    exact hnd x (List.mem_append_left _ x1) (Cx.inj (h.ok x ((q4 x).1 hxQ)) hc e)) (by rw [hab] at q3; simp at q3 ⊢; omega)
   rw [List.length_map] at this
   rw [q1,hab,List.map_append,List.map_cons]; exact this
  have hla:A.length<d.eI.length:=by rw [q1,hab]; simp
  have hd:dS.f d.eI (A.length:Int) (aw ((A.length:Int)+1))=some ((A++B).map Cx.key):=by
   unfold dS.f
   have hq:d.eI.length=Q.length:=by rw [q1,List.length_map]
   rw [aP om om]
   unfold an
   rw [if_pos ⟨om,om,om⟩,q1,hab]
   rw [show ((A.length:Int)+1).toNat=A.length+1 by omega,Int.toNat_natCast,List.map_append,List.map_append,List.map_cons]
   congr 1
   have e1:A.length=(A.map Cx.key).length:=by rw [List.length_map]
   rw [e1,List.take_left,← List.drop_drop,List.drop_left]; rfl
  refine ⟨_,Ev.bind hn (Ev.cf rfl (Ev.bind (Ev.ct (by rw [hp]; rfl) (Ev.bind hi (Ev.bind (Ev.of hd) Ev.pure))) (Ev.an ?_ Ev.pure))),hQ⟩
  show ((A++B).map Cx.key).length+1≤_∧(((A++B).map Cx.key).length+1)*16≤_
  rw [List.length_map]
  have:(A++B).length≤Q.length:=by rw [hab]; simp
  omega
 ·rw [if_neg hz] at hp
  have hQ:=mk Q (List.Sublist.refl _) fun a=>⟨fun ha=>⟨ha,fun e=>hz ((q4 c).1 (e ▸ ha))⟩,And.left⟩
  rw [← q1] at hQ
  refine ⟨_,Ev.bind hn (Ev.cf rfl (Ev.bind (Ev.cf (by rw [hp]; rfl) Ev.pure) (Ev.an ?_ Ev.pure))),hQ⟩
  have hq:d.eI.length=Q.length:=by rw [q1,List.length_map]
  show d.eI.length+1≤_∧(d.eI.length+1)*16≤_; omega
theorem ET {d:cH} {Z:List Cx} {from_:Int} (h:DS d Z from_) (hl:Z.length≤900) (n:Int):∃ Y:List Cx,Ev (fun k=>cG.f k d n) (Y.map Cx.key)∧Y.Nodup∧Y.length≤Z.length∧∀ c,c∈Y↔(c∈Z∧n<from_+(kX Z c:Int)):=by
 obtain ⟨Q,q1,q2,q3,q4⟩:=h.keys
 have hq:d.eI.length=Q.length:=by rw [q1,List.length_map]
 have loop:∀ x:Nat,x≤Q.length→(∀ c∈Q.drop x,n<from_+(kX Z c:Int))→∃ (i:Nat) (b:Bool),i≤Q.length∧El (fun k j=>cG.l0 k d n j (x:Int)) ((i:Int),b)∧(∀ c∈Q.drop i,n<from_+(kX Z c:Int))∧∀ c∈Q.take i,¬ n<from_+(kX Z c:Int):=by
  intro x
  induction x with
  | zero=>
   intro _ hd
   refine ⟨0,false,om,El.step (fun _ _=>by rw [cG.l0]) ?_,hd,fun c hc=>(by simp at hc)⟩
   exact El.cf rfl El.pure
  | succ x ih=>
   intro hx hd
   have hx2:x<Q.length:=om
   have hg:(mget d.nZ (d.eI.getD (aw (((x+1:Nat):Int)-1)).toNat default)).getD 0=from_+(kX Z Q[x]:Int):=by
    have hm:Q[x]∈Z:=(q4 _).1 (List.getElem_mem hx2)
    rw [aP om om,show (((x+1:Nat):Int)-1).toNat=x by omega,q1,gD,List.getElem?_map,gE hx2]
    show (mget d.nZ (Q[x]).key).getD 0=_
    rw [h.pos _ (h.ok _ hm),if_pos hm]; rfl
   have hw:aw (((x+1:Nat):Int)-1)=(x:Int):=by rw [aP om om]; omega
   by_cases hp:n<from_+(kX Z Q[x]:Int)
   ·obtain ⟨i,b,i1,i2,i3,i4⟩:=ih om fun c hc=>by
     rw [List.drop_eq_getElem_cons hx2] at hc
     rcases List.mem_cons.1 hc with rfl | hc
     ·exact hp
     ·exact hd c hc
    refine ⟨i,b,i1,El.step (fun _ _=>by rw [cG.l0]) ?_,i3,i4⟩
    refine El.ct (dT om) (El.an ⟨by rw [hw]; omega,by rw [hw,hq]; omega⟩ (El.ct (by rw [hg]; exact dT hp) ?_))
    rw [hw]; exact i2
   ·refine ⟨x+1,false,hx,El.step (fun _ _=>by rw [cG.l0]) ?_,hd,fun c hc=>?_⟩
    ·refine El.ct (dT om) (El.an ⟨by rw [hw]; omega,by rw [hw,hq]; omega⟩ (El.cf (by rw [hg]; exact dF hp) ?_))
     rw [hg,dF hp]; exact El.pure
    ·rw [List.take_succ_eq_append_getElem hx2] at hc
     rcases List.mem_append.1 hc with hc | hc
     ·have hpw:kX Z c<kX Z Q[x]:=by
       have e:Q=Q.take x++Q[x]::Q.drop (x+1):=by rw [← List.drop_eq_getElem_cons hx2,List.take_append_drop]
       rw [e] at q2
       have:=(List.pairwise_append.1 q2).2.2 c hc
       exact this _ List.mem_cons_self
      omega
     ·rw [List.mem_singleton.1 hc]; exact hp
 obtain ⟨i,b,i1,i2,i3,i4⟩:=loop Q.length (Nat.le_refl _) fun c hc=>by simp at hc
 refine ⟨Q.drop i,?_,?_,?_,fun c=>?_⟩
 ·unfold cG.f
  rw [hq]
  refine Ev.bind i2.diag ?_
  have hw:aw ((Q.length:Int)-(i:Int))=((Q.length-i:Nat):Int):=by rw [aP om om]; omega
  simp only [hw,Int.toNat_natCast,hq,List.length_replicate]
  refine Ev.an ⟨om,om,om⟩ (Ev.an ⟨om,i1⟩ (Ev.of ?_))
  rw [q1,List.drop_of_length_le (l:=List.replicate _ _) (by rw [List.length_replicate]; omega),List.append_nil,List.take_of_length_le (by rw [List.length_drop,List.length_map]; omega),List.map_drop]
 ·refine List.Pairwise.sublist (List.drop_sublist _ _) (q2.imp fun {a b} hab e=>?_)
  subst e; omega
 ·rw [List.length_drop]; omega
 ·rw [← q4]
  constructor
  ·exact fun hc=>⟨List.mem_of_mem_drop hc,i3 c hc⟩
  ·rintro ⟨hc,hn⟩
   rw [← List.take_append_drop i Q] at hc
   rcases List.mem_append.1 hc with hc | hc
   ·exact absurd hn (i4 c hc)
   ·exact hc
structure Ay (h:aN):Prop where
 fw:∀ i,i<h.fl.length→mget h.iH (h.fl.getD i default).bY=some (i:Int)
 bw:∀ key v,mget h.iH key=some v→∃ i:Nat,v=i∧i<h.fl.length∧(h.fl.getD i default).bY=key
 nd:Nd h.iH
structure sL (h:aN) (i:Nat) (e:di) (n:Nat) (M:di→Prop):Prop where
 len:h.fl.length=n
 lt:i<n
 fw:∀ m,m<n→m≠i→mget h.iH (h.fl.getD m default).bY=some (m:Int)
 bw:∀ key v,key≠e.bY→mget h.iH key=some v→∃ m:Nat,v=m∧m<n∧m≠i∧(h.fl.getD m default).bY=key
 ne:∀ m,m<n→m≠i→(h.fl.getD m default).bY≠e.bY
 nd:Nd h.iH
 mem:∀ x,(x=e∨∃ m,m<n∧m≠i∧h.fl.getD m default=x)↔M x
def sR (h:aN) (i:Nat) (x:di):aN:=⟨h.fl.set i x,mput h.iH x.bY (i:Int)⟩
theorem ue {h:aN} {i:Nat} {x:di} (hi:i<h.fl.length):dx.f h (i:Int) x=some (sR h i x):=by
 unfold dx.f sR
 simp only [an,Int.toNat_natCast]
 rw [if_pos ⟨om,om⟩]
theorem my {l:List di} {x:di}:x∈l↔∃ m,m<l.length∧l.getD m default=x:=by
 rw [List.mem_iff_getElem?]
 constructor
 ·rintro ⟨i,hi⟩
  obtain ⟨h1,h2⟩:=List.getElem?_eq_some_iff.1 hi
  exact ⟨i,h1,by rw [gD,hi]; rfl⟩
 ·rintro ⟨m,h1,h2⟩
  refine ⟨m,?_⟩
  rw [gD,gE h1] at h2
  rw [gE h1]; exact congrArg some h2
theorem sL.close {h:aN} {i n:Nat} {e:di} {M:di→Prop} (H:sL h i e n M):Ay (sR h i e)∧(sR h i e).fl.length=n∧(∀ x,x∈(sR h i e).fl↔M x)∧(sR h i e).fl.getD i default=e:=by
 obtain ⟨h1,h2,h3,h4,h5,h6,h7⟩:=H
 have hl:(sR h i e).fl.length=n:=by simp [sR,h1]
 have hg:∀ m,(sR h i e).fl.getD m default=if m=i then e else h.fl.getD m default:=fun m=>dX om
 refine ⟨⟨fun m hm=>?_,fun key v hv=>?_,sC h6⟩,hl,fun x=>?_,by rw [hg,if_pos rfl]⟩
 ·rw [hl] at hm
  rw [hg]
  show mget (mput h.iH e.bY (i:Int)) _=_
  rw [fG]
  by_cases e1:m=i
  ·subst e1; simp
  ·rw [if_neg e1,if_neg (fun x=>h5 m hm e1 x.symm)]; exact h3 m hm e1
 ·change mget (mput h.iH e.bY (i:Int)) key=some v at hv
  rw [fG] at hv
  by_cases e1:e.bY=key
  ·rw [if_pos e1] at hv
   cases hv
   exact ⟨i,rfl,om,by rw [hg,if_pos rfl]; exact e1⟩
  ·rw [if_neg e1] at hv
   obtain ⟨m,k1,k2,k3,k4⟩:=h4 key v (fun x=>e1 x.symm) hv
   exact ⟨m,k1,om,by rw [hg,if_neg k3]; exact k4⟩
 ·rw [my,hl,← h7]
  constructor
  ·rintro ⟨m,k1,k2⟩
   rw [hg] at k2
   by_cases e1:m=i
   ·rw [if_pos e1] at k2; exact .inl k2.symm
   ·rw [if_neg e1] at k2; exact .inr ⟨m,k1,e1,k2⟩
  ·rintro (rfl | ⟨m,k1,k2,k3⟩)
   ·exact ⟨i,h2,by rw [hg,if_pos rfl]⟩
   ·exact ⟨m,k1,by rw [hg,if_neg k2]; exact k3⟩
theorem sL.move {h:aN} {i n p:Nat} {e:di} {M:di→Prop} (H:sL h i e n M) (hp:p<n) (hpi:p≠i):sL (sR h i (h.fl.getD p default)) p e n M:=by
 obtain ⟨h1,h2,h3,h4,h5,h6,h7⟩:=H
 have hg:∀ m,(sR h i (h.fl.getD p default)).fl.getD m default=if m=i then h.fl.getD p default else h.fl.getD m default:=fun m=>dX om
 refine ⟨by simp [sR,h1],hp,fun m hm hmp=>?_,fun key v hk hv=>?_,fun m hm hmp=>?_,sC h6,fun x=>?_⟩
 ·rw [hg]
  show mget (mput h.iH (h.fl.getD p default).bY (i:Int)) _=_
  rw [fG]
  by_cases e1:m=i
  ·subst e1; simp
  ·rw [if_neg e1,if_neg,h3 m hm e1]
   intro e2
   have k1:=h3 m hm e1
   rw [← e2,h3 p hp hpi] at k1
   have:=Option.some.inj k1
   omega
 ·change mget (mput h.iH (h.fl.getD p default).bY (i:Int)) key=some v at hv
  rw [fG] at hv
  by_cases e1:(h.fl.getD p default).bY=key
  ·rw [if_pos e1] at hv
   cases hv
   exact ⟨i,rfl,h2,fun x=>hpi x.symm,by rw [hg,if_pos rfl]; exact e1⟩
  ·rw [if_neg e1] at hv
   obtain ⟨m,k1,k2,k3,k4⟩:=h4 key v hk hv
   exact ⟨m,k1,k2,fun x=>by subst x; exact e1 k4,by rw [hg,if_neg k3]; exact k4⟩
 ·rw [hg]
  by_cases e1:m=i
  ·rw [if_pos e1]; exact h5 p hp hpi
  ·rw [if_neg e1]; exact h5 m hm e1
 ·rw [← h7]
  constructor
  ·rintro (h8 | ⟨m,k1,k2,k3⟩)
   ·exact .inl h8
   ·rw [hg] at k3
    by_cases e1:m=i
    ·rw [if_pos e1] at k3; exact .inr ⟨p,hp,hpi,k3⟩
    ·rw [if_neg e1] at k3; exact .inr ⟨m,k1,e1,k3⟩
  ·rintro (h8 | ⟨m,k1,k2,k3⟩)
   ·exact .inl h8
   ·by_cases e1:m=p
    ·subst e1; exact .inr ⟨i,h2,fun x=>k2 x.symm,by rw [hg,if_pos rfl]; exact k3⟩
    ·exact .inr ⟨m,k1,e1,by rw [hg,if_neg k2]; exact k3⟩
theorem Ay.inj {h:aN} (H:Ay h) {i j:Nat} (hi:i<h.fl.length) (hj:j<h.fl.length) (e:(h.fl.getD i default).bY=(h.fl.getD j default).bY):i=j:=by
 have h1:=H.fw i hi
 rw [e,H.fw j hj] at h1
 have:=Option.some.inj h1
 omega
theorem Ay.hole {h:aN} (H:Ay h) {i:Nat} (hi:i<h.fl.length):sL h i (h.fl.getD i default) h.fl.length (·∈h.fl):=by
 refine ⟨rfl,hi,fun m hm _=>H.fw m hm,fun key v hk hv=>?_,fun m hm hmi e=>hmi (H.inj hm hi e),H.nd,fun x=>?_⟩
 ·obtain ⟨m,k1,k2,k3⟩:=H.bw key v hv
  exact ⟨m,k1,k2,fun e=>by subst e; exact hk k3.symm,k3⟩
 ·rw [my]
  constructor
  ·rintro (rfl | ⟨m,k1,_,k3⟩)
   ·exact ⟨i,hi,rfl⟩
   ·exact ⟨m,k1,k3⟩
  ·rintro ⟨m,k1,k2⟩
   by_cases e:m=i
   ·subst e; exact .inl k2.symm
   ·exact .inr ⟨m,k1,e,k2⟩
def tC (a b:di):Int:=if mW a.fY b.fY=0 then jL a.bY b.bY else mW a.fY b.fY
theorem oE (a b:di):Ev (fun k=>heap_ahead.f k a b) (tC a b):=by
 unfold heap_ahead.f
 exact Ev.bind (Ev.of (Bq _ _)) (Ev.bind (Ev.of (wc _ _)) (Ev.bind (Cd _ _) Ev.pure))
theorem HS {x y:Int}:mW x y≤0↔x≤y:=by unfold mW; split <;> (try split) <;> omega
theorem tK {x y:Int}:mW x y=0↔x=y:=by unfold mW; split <;> (try split) <;> omega
def zU (a b:di):Prop:=tC a b≤0
theorem yy {a b:di}:zU a b↔a.fY<b.fY∨(a.fY=b.fY∧dO b.bY a.bY=false):=by
 unfold zU tC
 by_cases h:mW a.fY b.fY=0
 ·have e:=tK.1 h
  rw [if_pos h,CL]
  constructor
  ·intro k; exact .inr ⟨e,k⟩
  ·rintro (k | ⟨_,k⟩)
   ·omega
   ·exact k
 ·have e:¬ a.fY=b.fY:=fun k=>h (tK.2 k)
  rw [if_neg h,HS]
  constructor
  ·intro k; exact .inl om
  ·rintro (k | ⟨k,_⟩)
   ·omega
   ·exact absurd k e
theorem vN (a:di):zU a a:=yy.2 (.inr ⟨rfl,iF _⟩)
theorem qw {a b c:di} (h:zU a b) (k:zU b c):zU a c:=by
 rw [yy] at *
 rcases h with h | ⟨h,h'⟩ <;> rcases k with k | ⟨k,k'⟩
 ·exact .inl om
 ·exact .inl om
 ·exact .inl om
 ·exact .inr ⟨om,oZ h' k'⟩
theorem AY {a b:di} (h:tC a b<0):zU a b:=by unfold zU; omega
theorem En {a b:di} (h:¬ tC a b<0):zU b a:=by
 rw [yy]
 by_cases h1:b.fY<a.fY
 ·exact .inl h1
 ·have h2:¬ a.fY<b.fY:=fun k=>by
   have e:¬ mW a.fY b.fY=0:=fun k2=>by have:=tK.1 k2; omega
   have e2:mW a.fY b.fY = -1:=by unfold mW; rw [if_pos k]
   apply h; unfold tC; rw [if_neg e,e2]; decide
  have h3:a.fY=b.fY:=om
  refine .inr ⟨h3.symm,?_⟩
  cases e:dO a.bY b.bY with
  | false=>rfl
  | true=>
   exfalso; apply h; unfold tC
   rw [if_pos (tK.2 h3),mP]; exact e
def Ord (l:List di):Prop:=∀ m,0<m→m<l.length→zU (l.getD ((m-1)/2) default) (l.getD m default)
structure oO (l:List di) (i:Nat):Prop where
 u1:∀ m,0<m→m<l.length→m≠i→(m-1)/2≠i→zU (l.getD ((m-1)/2) default) (l.getD m default)
 u2:0<i→∀ c,0<c→c<l.length→(c-1)/2=i→zU (l.getD ((i-1)/2) default) (l.getD c default)
def Over (l:List di) (i:Nat) (e:di):Prop:=∀ c,0<c→c<l.length→(c-1)/2=i→zU e (l.getD c default)
def Under (l:List di) (i:Nat) (e:di):Prop:=0<i→zU (l.getD ((i-1)/2) default) e
theorem Ord.hord {l:List di} (H:Ord l) (i:Nat):oO l i:=⟨fun m h1 h2 _ _=>H m h1 h2,fun h1 c h2 h3 h4=>by
 have a:=H c h2 h3
 rw [h4] at a
 rcases Nat.lt_or_ge i l.length with h | h
 ·exact qw (H i h1 h) a
 ·omega⟩
theorem oO.close {l:List di} {i:Nat} {e:di} (H:oO l i) (hi:i<l.length) (ho:Over l i e) (hu:Under l i e):Ord (l.set i e):=by
 intro m h1 h2
 rw [List.length_set] at h2
 rw [dX hi,dX hi]
 by_cases e1:m=i
 ·subst e1
  rw [if_pos rfl,if_neg om]
  exact hu h1
 ·rw [if_neg e1]
  by_cases e2:(m-1)/2=i
  ·rw [if_pos e2]; exact ho m h1 h2 e2
  ·rw [if_neg e2]; exact H.u1 m h1 h2 e1 e2
theorem oO.set {l:List di} {i:Nat} {e:di} (H:oO l i) (hi:i<l.length):oO (l.set i e) i:=by
 refine ⟨fun m h1 h2 h3 h4=>?_,fun h1 c h2 h3 h4=>?_⟩
 ·rw [List.length_set] at h2
  rw [dX hi,dX hi,if_neg h3,if_neg h4]; exact H.u1 m h1 h2 h3 h4
 ·rw [List.length_set] at h3
  rw [dX hi,dX hi,if_neg om,if_neg om]; exact H.u2 h1 c h2 h3 h4
theorem Over.set {l:List di} {i:Nat} {e x:di} (H:Over l i e) (hi:i<l.length):Over (l.set i x) i e:=fun c h1 h2 h3=>by
 rw [List.length_set] at h2
 rw [dX hi,if_neg om]; exact H c h1 h2 h3
theorem oO.up {l:List di} {i:Nat} {e:di} (H:oO l i) (hi:i<l.length) (h0:0<i) (ho:Over l i e) (hl:zU e (l.getD ((i-1)/2) default)):oO (l.set i (l.getD ((i-1)/2) default)) ((i-1)/2)∧Over (l.set i (l.getD ((i-1)/2) default)) ((i-1)/2) e:=by
 refine ⟨⟨fun m h1 h2 h3 h4=>?_,fun h1 c h2 h3 h4=>?_⟩,fun c h2 h3 h4=>?_⟩
 ·rw [List.length_set] at h2
  rw [dX hi,dX hi]
  have e1:m≠i:=fun e=>by subst e; exact h4 rfl
  rw [if_neg e1]
  by_cases e2:(m-1)/2=i
  ·rw [if_pos e2]; exact H.u2 h0 m h1 h2 e2
  ·rw [if_neg e2]; exact H.u1 m h1 h2 e1 e2
 ·rw [List.length_set] at h3
  rw [dX hi,dX hi,if_neg om]
  have hp:=H.u1 ((i-1)/2) h1 om om om
  by_cases e1:c=i
  ·rw [if_pos e1]; exact hp
  ·rw [if_neg e1]
   have:=H.u1 c h2 h3 e1 om
   rw [h4] at this
   exact qw hp this
 ·rw [List.length_set] at h3
  rw [dX hi]
  by_cases e1:c=i
  ·rw [if_pos e1]; exact hl
  ·rw [if_neg e1]
   have:=H.u1 c h2 h3 e1 om
   rw [h4] at this
   exact qw hl this
theorem oO.down {l:List di} {i k:Nat} {e:di} (H:oO l i) (hi:i<l.length) (hk:k<l.length) (hki:k=2*i+1∨k=2*i+2) (hmin:∀ c,c<l.length→(c=2*i+1∨c=2*i+2)→zU (l.getD k default) (l.getD c default)):oO (l.set i (l.getD k default)) k:=by
 refine ⟨fun m h1 h2 h3 h4=>?_,fun h1 c h2 h3 h4=>?_⟩
 ·rw [List.length_set] at h2
  rw [dX hi,dX hi]
  by_cases e1:m=i
  ·subst e1
   rw [if_pos rfl,if_neg om]
   exact H.u2 h1 k om hk om
  ·rw [if_neg e1]
   by_cases e2:(m-1)/2=i
   ·rw [if_pos e2]; exact hmin m h2 om
   ·rw [if_neg e2]; exact H.u1 m h1 h2 e1 e2
 ·rw [List.length_set] at h3
  rw [dX hi,dX hi,if_pos om,if_neg om]
  have:=H.u1 c h2 h3 om om
  rw [h4] at this
  exact this
section
variable {a0:aN} {a1:Int} {n:Nat} {M:di→Prop}
theorem Dq (hn:n≤1000000):∀ (d i:Nat) (h:aN),n-i≤d→sL h i (a0.fl.getD a1.toNat default) n M→oO h.fl i→∃ i' h' q1 q2 q3,sL h' i' (a0.fl.getD a1.toNat default) n M∧oO h'.fl i'∧Over h'.fl i' (a0.fl.getD a1.toNat default)∧El (fun k j=>heap_Heap_down.l0 k a0 a1 j (i:Int) h) ((i':Int),q1,q2,q3,h'):=by
 intro d
 induction d with
 | zero=>intro i h hd H; have:=H.lt; omega
 | succ d ih=>
  intro i h hd H O
  have hlen:=H.len
  have hlt:=H.lt
  have w1:aw (2*(i:Int))=((2*i:Nat):Int):=by rw [aP om om]; omega
  have w2:aw (((2*i:Nat):Int)+1)=((2*i+1:Nat):Int):=by rw [aP om om]; omega
  have w3:aw (((2*i+1:Nat):Int)+1)=((2*i+2:Nat):Int):=by rw [aP om om]; omega
  have hk:∃ (kk:Nat) (q:Bool),(kk=2*i+1∨(kk=2*i+2∧kk<n))∧(kk<n→∀ c,c<n→(c=2*i+1∨c=2*i+2)→zU (h.fl.getD kk default) (h.fl.getD c default))∧Ev (fun k=>cond (decide (((2*i+2:Nat):Int)<(h.fl.length:Int))) (an ((0:Int)≤((2*i+2:Nat):Int)∧((2*i+2:Nat):Int)<(h.fl.length:Int)) (an ((0:Int)≤((2*i+1:Nat):Int)∧((2*i+1:Nat):Int)<(h.fl.length:Int)) ((heap_ahead.f k (h.fl.getD (((2*i+2:Nat):Int).toNat) default) (h.fl.getD (((2*i+1:Nat):Int).toNat) default)).bind fun t737=>cond (decide (t737<0)) (some (((2*i+2:Nat):Int),decide (t737<0))) (some (((2*i+1:Nat):Int),decide (t737<0)))))) (some (((2*i+1:Nat):Int),false))) ((kk:Int),q):=by
   by_cases h1:2*i+2<n
   ·by_cases h2:tC (h.fl.getD (((2*i+2:Nat):Int).toNat) default) (h.fl.getD (((2*i+1:Nat):Int).toNat) default)<0
    ·refine ⟨2*i+2,decide (_<0),.inr ⟨rfl,h1⟩,fun _ c hc hc2=>?_,Ev.ct (dT om) (Ev.an ⟨om,om⟩ (Ev.an ⟨om,om⟩ (Ev.bind (oE _ _) (Ev.ct (dT h2) Ev.pure))))⟩
     rcases hc2 with rfl | rfl
     ·exact AY h2
     ·exact vN _
    ·refine ⟨2*i+1,decide (_<0),.inl rfl,fun _ c hc hc2=>?_,Ev.ct (dT om) (Ev.an ⟨om,om⟩ (Ev.an ⟨om,om⟩ (Ev.bind (oE _ _) (Ev.cf (dF h2) Ev.pure))))⟩
     rcases hc2 with rfl | rfl
     ·exact vN _
     ·exact En h2
   ·refine ⟨2*i+1,false,.inl rfl,fun _ c hc hc2=>?_,Ev.cf (dF om) Ev.pure⟩
    rcases hc2 with rfl | rfl
    ·exact vN _
    ·omega
  obtain ⟨kk,q,hkk,hmin,hev⟩:=hk
  by_cases h1:n≤kk
  ·refine ⟨i,h,(kk:Int),q,true,H,O,fun c c1 c2 c3=>om,?_⟩
   refine El.step (fun _ _=>by rw [heap_Heap_down.l0]) ?_
   simp only [w1,w2,w3]
   exact El.bind hev.el (El.ct (dT om) El.pure)
  ·by_cases h2:tC (a0.fl.getD a1.toNat default) (h.fl.getD ((kk:Int).toNat) default)<0
   ·refine ⟨i,h,(kk:Int),q,decide (tC (a0.fl.getD a1.toNat default) (h.fl.getD ((kk:Int).toNat) default)<0),H,O,fun c c1 c2 c3=>qw (AY h2) (hmin om c om om),?_⟩
    refine El.step (fun _ _=>by rw [heap_Heap_down.l0]) ?_
    simp only [w1,w2,w3]
    exact El.bind hev.el (El.cf (dF om) (El.an ⟨om,om⟩ (El.bind (oE _ _).el (El.ct (dT h2) El.pure))))
   ·have H2:=H.move (p:=kk) om om
    have O2:=O.down (e:=default) om (k:=kk) om om (fun c c1 c2=>hmin om c om c2)
    obtain ⟨i',h',q1,q2,q3,k1,k2,k3,k4⟩:=ih kk _ om H2 O2
    refine ⟨i',h',q1,q2,q3,k1,k2,k3,?_⟩
    refine El.step (fun _ _=>by rw [heap_Heap_down.l0]) ?_
    simp only [w1,w2,w3]
    refine El.bind hev.el (El.cf (dF om) (El.an ⟨om,om⟩ (El.bind (oE _ _).el (El.cf (dF h2) (El.an ⟨om,om⟩ (El.bind (Ev.el (Ev.of (ue om))) ?_))))))
    rw [Int.toNat_natCast]
    exact k4
theorem Im (hn:n≤1000000):∀ (i:Nat) (h:aN),sL h i (a0.fl.getD a1.toNat default) n M→oO h.fl i→Over h.fl i (a0.fl.getD a1.toNat default)→∃ i' h' q1,sL h' i' (a0.fl.getD a1.toNat default) n M∧Ord (sR h' i' (a0.fl.getD a1.toNat default)).fl∧El (fun k j=>cY.l0 k a0 a1 j (i:Int) h) ((i':Int),q1,h'):=by
 intro i
 induction i using Nat.strongRecOn with
 | _ i ih=>
  intro h H O V
  have hlen:=H.len
  have hlt:=H.lt
  by_cases h0:0<i
  ·have w1:aw ((aw ((i:Int)-1)).tdiv 2)=(((i-1)/2:Nat):Int):=by
    rw [aP (x:=(i:Int)-1) om om,Int.tdiv_eq_ediv_of_nonneg om,aP om om]; omega
   by_cases h2:tC (a0.fl.getD a1.toNat default) (h.fl.getD ((((i-1)/2:Nat):Int).toNat) default)<0
   ·have H2:=H.move (p:=(i-1)/2) om om
    have O2:=O.up om h0 V (AY h2)
    obtain ⟨i',h',q1,k1,k2,k3⟩:=ih ((i-1)/2) om _ H2 O2.1 O2.2
    refine ⟨i',h',q1,k1,k2,?_⟩
    refine El.step (fun _ _=>by rw [cY.l0]) ?_
    simp only [w1]
    refine El.ct (dT om) (El.an ⟨om,om⟩ (El.bind (oE _ _).el (El.ct (dT h2) (El.an ⟨om,om⟩ (El.bind (Ev.el (Ev.of (ue om))) ?_)))))
    rw [Int.toNat_natCast]
    exact k3
   ·refine ⟨i,h,decide (tC (a0.fl.getD a1.toNat default) (h.fl.getD ((((i-1)/2:Nat):Int).toNat) default)<0),H,O.close om V (fun _=>En h2),?_⟩
    refine El.step (fun _ _=>by rw [cY.l0]) ?_
    simp only [w1]
    exact El.ct (dT om) (El.an ⟨om,om⟩ (El.bind (oE _ _).el (El.cf (dF h2) El.pure)))
  ·refine ⟨i,h,false,H,O.close om V (fun k=>absurd k h0),?_⟩
   refine El.step (fun _ _=>by rw [cY.l0]) ?_
   exact El.cf (dF om) El.pure
end
theorem GQ {h:aN} {i:Nat} (H:Ay h) (hn:h.fl.length≤1000000) (hi:i<h.fl.length) (O:oO h.fl i):∃ h' j,Ev (fun k=>heap_Heap_down.f k h (i:Int)) h'∧Ay h'∧h'.fl.length=h.fl.length∧(∀ x,x∈h'.fl↔x∈h.fl)∧j<h'.fl.length∧h'.fl.getD j default=h.fl.getD i default∧oO h'.fl j∧Over h'.fl j (h.fl.getD i default):=by
 have H1:=H.hole hi
 obtain ⟨i',h',q1,q2,q3,k1,o1,o2,k2⟩:=Dq (a0:=h) (a1:=(i:Int)) hn h.fl.length i h om (by rw [Int.toNat_natCast]; exact H1) O
 obtain ⟨c1,c2,c3,c4⟩:=k1.close
 have hl:=k1.len
 have hlt:=k1.lt
 refine ⟨_,i',?_,c1,c2,c3,om,c4,o1.set om,o2.set om⟩
 unfold heap_Heap_down.f
 exact Ev.an ⟨om,om⟩ (Ev.bind k2.diag (Ev.bind (Ev.of (ue (h:=h') (i:=i') om)) Ev.pure))
theorem I5 {h:aN} {i:Nat} {e:di} {n:Nat} {M:di→Prop} (he:h.fl.getD i default=e) (H1:sL h i e n M) (hn:n≤1000000) (O:oO h.fl i) (V:Over h.fl i e):∃ h',Ev (fun k=>cY.f k h (i:Int)) h'∧Ay h'∧h'.fl.length=n∧(∀ x,x∈h'.fl↔M x)∧Ord h'.fl:=by
 subst he
 obtain ⟨i',h',q1,k1,o1,k2⟩:=Im (a0:=h) (a1:=(i:Int)) hn i h (by rw [Int.toNat_natCast]; exact H1) O (by rw [Int.toNat_natCast]; exact V)
 obtain ⟨c1,c2,c3,_⟩:=k1.close
 refine ⟨_,?_,c1,c2,c3,o1⟩
 unfold cY.f
 have hl:=k1.len
 have hlt:=k1.lt
 have hl1:=H1.len
 have hlt1:=H1.lt
 exact Ev.an ⟨om,om⟩ (Ev.bind k2.diag (Ev.bind (Ev.of (ue (h:=h') (i:=i') om)) Ev.pure))
theorem gS {l:List di} {n m:Nat} (h:m<n):(l.take n).getD m default=l.getD m default:=by
 simp [gD,List.getElem?_take,h]
theorem Ord.take {l:List di} (O:Ord l) (n:Nat):Ord (l.take n):=fun m h1 h2=>by
 rw [List.length_take] at h2
 rw [gS om,gS om]; exact O m h1 om
theorem yq {h:aN} (H:Ay h) (O:Ord h.fl) (hn:h.fl.length≤1000000) (key:BA):
  ∃ h',Ev (fun k=>du.f k h key) ((mget h.iH key).isSome,h')∧Ay h'∧h'.fl.length=h.fl.length-(if (mget h.iH key).isSome then 1 else 0)∧(∀ x,x∈h'.fl↔x∈h.fl∧x.bY≠key)∧Ord h'.fl:=by
 cases hk:mget h.iH key with
 | none=>
  refine ⟨h,?_,H,sM,fun x=>⟨fun hx=>⟨hx,fun e=>?_⟩,fun hx=>hx.1⟩,O⟩
  ·unfold du.f
   rw [hk]
   exact Ev.ct rfl Ev.pure
  ·obtain ⟨m,h1,h2⟩:=my.1 hx
   have:=H.fw m h1
   rw [h2,e,hk] at this; cases this
 | some v=>
  obtain ⟨i,rfl,hi,hik⟩:=H.bw key v hk
  generalize hN:h.fl.length=n at hn hi ⊢
  have w1:aw ((n:Int)-1)=((n-1:Nat):Int):=by rw [aP om om]; omega
  have e1:(h.fl.take (n-1)).drop 0=h.fl.take (n-1):=List.drop_zero
  have hl:(h.fl.take (n-1)).length=n-1:=by rw [List.length_take,hN]; omega
  have hinj:∀ {p q:Nat},p<n→q<n→(h.fl.getD p default).bY=(h.fl.getD q default).bY→p=q:=fun hp hq e=>H.inj om om e
  unfold du.f
  rw [hk,hN,w1,Int.toNat_natCast,e1]
  by_cases hlt:i<n-1
  ·have Ho:sL ⟨h.fl.take (n-1),lL h.iH key⟩ i (h.fl.getD (n-1) default) (n-1) (fun x=>x∈h.fl∧x.bY≠key):=by
    refine ⟨hl,hlt,fun m hm hmi=>?_,fun key' v hk' hv=>?_,fun m hm hmi e=>?_,EV H.nd,fun x=>?_⟩
    ·show mget (lL h.iH key) ((h.fl.take (n-1)).getD m default).bY=_
     rw [gS hm,ox H.nd,if_neg (fun e=>hmi (hinj om hi (by rw [← e,hik])))]
     exact H.fw m om
    ·change mget (lL h.iH key) key'=some v at hv
     rw [ox H.nd] at hv
     by_cases e2:key=key'
     ·rw [if_pos e2] at hv; cases hv
     ·rw [if_neg e2] at hv
      obtain ⟨m,k1,k2,k3⟩:=H.bw key' v hv
      have k4:m≠n-1:=fun e=>hk' (by rw [← k3,e])
      refine ⟨m,k1,om,fun e=>e2 (by rw [← hik,← k3,e]),?_⟩
      show ((h.fl.take (n-1)).getD m default).bY=_
      rw [gS om]; exact k3
    ·change ((h.fl.take (n-1)).getD m default).bY=_ at e
     rw [gS hm] at e
     have:=hinj om om e
     omega
    ·show (_∨∃ m,m<n-1∧m≠i∧(h.fl.take (n-1)).getD m default=x)↔_
     rw [my,hN]
     constructor
     ·rintro (rfl | ⟨m,k1,k2,k3⟩)
      ·exact ⟨⟨n-1,om,rfl⟩,fun e=>by have:=hinj om hi (e.trans hik.symm); omega⟩
      ·rw [gS k1] at k3
       exact ⟨⟨m,om,k3⟩,fun e=>k2 (hinj om hi (by rw [k3,e,hik]))⟩
     ·rintro ⟨⟨m,k1,k2⟩,k3⟩
      by_cases e2:m=n-1
      ·subst e2; exact .inl k2.symm
      ·exact .inr ⟨m,om,fun e=>k3 (by rw [← k2,e,hik]),by rw [gS om]; exact k2⟩
   obtain ⟨c1,c2,c3,c4⟩:=Ho.close
   obtain ⟨h2,j,d1,d2,d3,d4,j1,j2,o1,o2⟩:=GQ c1 om (i:=i) om (((O.take (n-1)).hord i).set om)
   rw [c4] at j2 o2
   have j3:=d2.fw j j1
   rw [j2] at j3
   obtain ⟨h3,u1,u2,u3,u4,u5⟩:=I5 rfl (d2.hole j1) om o1 (by rw [j2]; exact o2)
   refine ⟨h3,?_,u2,by simp only [Option.isSome_some,if_true]; omega,fun x=>by rw [u4,d4,c3],u5⟩
   refine Ev.cf rfl (Ev.an ⟨om,om⟩ (Ev.an ⟨om,om,om⟩ (Ev.ct (dT (by simp only [Option.getD_some]; omega)) ?_)))
   simp only [Option.getD_some]
   refine Ev.bind (Ev.of (ue (by rw [hl]; exact hlt))) (Ev.bind d1 ?_)
   rw [j3]
   exact Ev.bind u1 Ev.pure
  ·obtain rfl:i=n-1:=om
   refine ⟨⟨h.fl.take (n-1),lL h.iH key⟩,Ev.cf rfl (Ev.an ⟨om,om⟩ (Ev.an ⟨om,om,om⟩ (Ev.cf (dF (by simp only [Option.getD_some]; omega)) Ev.pure))),⟨fun m hm=>?_,fun key' v hv=>?_,EV H.nd⟩,by rw [hl]; simp,fun x=>?_,O.take _⟩
   ·change m<(h.fl.take (n-1)).length at hm
    rw [hl] at hm
    show mget (lL h.iH key) ((h.fl.take (n-1)).getD m default).bY=_
    rw [gS hm,ox H.nd,if_neg (fun e=>by have:=hinj (p:=m) (q:=n-1) om hi (by rw [← e,hik]); omega)]
    exact H.fw m om
   ·change mget (lL h.iH key) key'=some v at hv
    rw [ox H.nd] at hv
    by_cases e2:key=key'
    ·rw [if_pos e2] at hv; cases hv
    ·rw [if_neg e2] at hv
     obtain ⟨m,k1,k2,k3⟩:=H.bw key' v hv
     have k4:m≠n-1:=fun e=>e2 (by rw [← hik,← k3,e])
     refine ⟨m,k1,by show m<(h.fl.take (n-1)).length; omega,?_⟩
     show ((h.fl.take (n-1)).getD m default).bY=_
     rw [gS om]; exact k3
   ·show x∈h.fl.take (n-1)↔_
    rw [my,my,hl,hN]
    constructor
    ·rintro ⟨m,k1,k2⟩
     rw [gS k1] at k2
     exact ⟨⟨m,om,k2⟩,fun e=>by have:=hinj (p:=m) (q:=n-1) om hi (by rw [k2,e,hik]); omega⟩
    ·rintro ⟨⟨m,k1,k2⟩,k3⟩
     have k4:m≠n-1:=fun e=>k3 (by rw [← k2,e,hik])
     exact ⟨m,om,by rw [gS om]; exact k2⟩
theorem mn {l:List di} {x:di} {m:Nat}:(l++[x]).getD m default=if m<l.length then l.getD m default else if m=l.length then x else default:=by
 simp only [gD,List.getElem?_append]
 by_cases h:m<l.length
 ·simp [h]
 ·rw [if_neg h,if_neg h]
  by_cases h2:m=l.length
  ·subst h2; simp
  ·rw [if_neg h2,List.getElem?_eq_none (by simp; omega)]; rfl
theorem D7 {h:aN} (H:Ay h) (O:Ord h.fl) (hn:h.fl.length≤100000) (at_:Int) (key:BA):
  ∃ h',Ev (fun k=>eS.f k h at_ key) h'∧Ay h'∧h'.fl.length=h.fl.length+1-(if (mget h.iH key).isSome then 1 else 0)∧(∀ x,x∈h'.fl↔x=⟨at_,key⟩∨(x∈h.fl∧x.bY≠key))∧Ord h'.fl:=by
 obtain ⟨h1,d1,d2,d3,d4,d5⟩:=yq H O om key
 have hl:h1.fl.length≤h.fl.length:=om
 have hd:(if (mget h.iH key).isSome then 1 else 0)≤h.fl.length:=by
  cases hk:mget h.iH key with
  | none=>simp
  | some v=>obtain ⟨i,_,hi,_⟩:=H.bw key v hk; simp; omega
 have w1:aw (((h1.fl++([(⟨at_,key⟩:di)]:List di)).length:Int)-1)=((h1.fl.length:Nat):Int):=by
  rw [List.length_append,List.length_singleton,aP om om]; omega
 have hne:∀ m,m<h1.fl.length→(h1.fl.getD m default).bY≠key:=fun m hm=>((d4 _).1 (my.2 ⟨m,hm,rfl⟩)).2
 have Ho:sL ⟨h1.fl++[⟨at_,key⟩],h1.iH⟩ h1.fl.length ⟨at_,key⟩ (h1.fl.length+1) (fun x=>x=⟨at_,key⟩∨(x∈h.fl∧x.bY≠key)):=by
  refine ⟨sM,om,fun m hm hmi=>?_,fun key' v hk' hv=>?_,fun m hm hmi=>?_,d2.nd,fun x=>?_⟩
  ·show mget h1.iH ((h1.fl++[_]).getD m default).bY=_
   rw [mn,if_pos om]; exact d2.fw m om
  ·obtain ⟨m,k1,k2,k3⟩:=d2.bw key' v hv
   refine ⟨m,k1,om,om,?_⟩
   show ((h1.fl++[_]).getD m default).bY=_
   rw [mn,if_pos k2]; exact k3
  ·show ((h1.fl++[_]).getD m default).bY≠_
   rw [mn,if_pos om]; exact hne m om
  ·rw [← d4,my]
   constructor
   ·rintro (h8 | ⟨m,k1,k2,k3⟩)
    ·exact .inl h8
    ·change (h1.fl++[_]).getD m default=x at k3
     rw [mn,if_pos om] at k3
     exact .inr ⟨m,om,k3⟩
   ·rintro (h8 | ⟨m,k1,k2⟩)
    ·exact .inl h8
    ·refine .inr ⟨m,om,om,?_⟩
     show (h1.fl++[_]).getD m default=x
     rw [mn,if_pos k1]; exact k2
 have O2:oO (h1.fl++[⟨at_,key⟩]) h1.fl.length:=by
  refine ⟨fun m m1 m2 m3 m4=>?_,fun m1 c c1 c2 c3=>?_⟩
  ·rw [List.length_append,List.length_singleton] at m2
   rw [mn,mn,if_pos om,if_pos om]
   exact d5 m m1 om
  ·rw [List.length_append,List.length_singleton] at c2; omega
 have V2:Over (h1.fl++[⟨at_,key⟩]) h1.fl.length ⟨at_,key⟩:=fun c c1 c2 c3=>by
  rw [List.length_append,List.length_singleton] at c2; omega
 obtain ⟨h2,u1,u2,u3,u4,u5⟩:=I5 (by show (h1.fl++[_]).getD _ default=_; rw [mn,if_neg om,if_pos rfl]) Ho om O2 V2
 refine ⟨h2,?_,u2,om,u4,u5⟩
 unfold eS.f
 refine Ev.bind d1 (Ev.an ⟨by simp; omega,by simp; omega⟩ ?_)
 rw [w1]
 exact Ev.bind u1 Ev.pure
theorem CB:Ord []:=fun m h1 h2=>by simp at h2
theorem CE:Ay ⟨[],[]⟩:=⟨fun i hi=>by simp at hi,fun key v hv=>(by cases hv),yU⟩
end Go.Proofs.YtfknmdelgepbjaaGreatDoor
