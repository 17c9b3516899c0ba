import Derived.Test.YtelcbdmigiacpaaGreatZYE
import Derived.Test.YtelcbdmigiacpaaGreatZPC
import Derived.Test.YtelcbdmigiacpaaGreatConB1
set_option linter.all false
set_option maxRecDepth 10000
namespace Go.Proofs.YtelcbdmigiacpaaGreat
open Go Go.Sp
def cY (e:ak):aZ:=⟨e.bf,e.aj,e.aC,e.ah,e.ay⟩
def zE:ak:=⟨0,⟨#[]⟩,⟨#[]⟩,⟨#[]⟩,⟨#[]⟩,false,false,0,0,0,0⟩
structure OkP (e:ak):Prop where
 sm:Sm e
 may:AG e=true
theorem Sm.zz {e:ak} (h:Sm e):Zz e:=by
 have a:=h.room;have b:=h.user;have c:=h.event;have d:=h.nL
 have m:128<=maxLen:=dc
 exact⟨om,om,om,om⟩
structure ue (q:cF) (r:iH):Prop where
 C4:q.bw=r.bW
 keys:q.bA=r.fL.map cY
 nd:(r.fL.map cY).Nodup
 IN:Nd q.dA
 E8:∀ e∈r.fL,mget q.dA (cY e)=some e
 lost:q.da=r.bS
 len:(r.fL.length:Int)<=r.bW
 F4:1<=r.bW/\r.bW<=120
 ok:∀ e∈r.fL,OkP e
 Fe:∀ k,k ∉ r.fL.map cY->mget q.dA k=none
theorem D3 {m:Int} (h:1<=m/\m<=120):ue ⟨m,[],[],0⟩ ⟨m,[],0⟩:=⟨rfl,rfl,List.nodup_nil,xZ,λe h=>(by cases h),rfl,by show(0:Int)<=m;omega,h,λe h=>(by cases h),λ_ _=>rfl⟩
theorem ue.short {q:cF} {r:iH} (h:ue q r):r.fL.length<=120:=by have:=h.len;have:=h.F4;omega
theorem wa (e:ak):nk.f e=some (cY e):=rfl
theorem yu (q:cF) (k:aZ) (hl:q.bA.length<=100000):Ev (λn=>bZ.f n q k) ⟨q.bw,q.bA.filter (λx=>!decide (x=k)),jV q.dA k,q.da⟩:=by
 have pr:∀ x∈q.bA,Ev (λ_=>ei.f x k) (decide (x=k)):=λx _=>Ev.of rfl
 have hI:Ev (λn=>bX.f n q.bA (λe=>ei.f e k)) (yh (λx=>decide (x=k)) q.bA):=by
  unfold bX.f
  exact idxG (F:=λn j x=>bX.l0 n q.bA (λe=>ei.f e k) j x) (d:=default) hl pr λ_ _ _=>rfl
 have h:=delG (F:=λn j i m l=>slices_DeleteFunc_Key_xo.l0 n (λe=>ei.f e k) j i m l) (d:=default) (z0:=(⟨0,eE,eE,eE,false⟩:aZ)) hl pr hI λ_ _ _ _ _=>rfl
 unfold bZ.f
 exact Ev.bind h Ev.pure
theorem uP (k:aZ):∀ l:List ak,(l.map cY).filter (λx=>!decide (x=k))=(l.filter λe=>!decide (cY e=k)).map cY
 | []=>rfl
 | e::l=>by
  rw [List.map_cons,List.filter_cons,List.filter_cons,uP k l]
  split <;> rfl
theorem ue.drop {q:cF} {r:iH} (h:ue q r) (k:aZ):ue ⟨q.bw,q.bA.filter (λx=>!decide (x=k)),jV q.dA k,q.da⟩ ⟨r.bW,r.fL.filter (λe=>!decide (cY e=k)),r.bS⟩:=by
 have hs:(r.fL.filter (λe=>!decide (cY e=k))).Sublist r.fL:=List.filter_sublist ..
 refine⟨h.C4,by show q.bA.filter _=_;rw [h.keys,uP],(hs.map _).nodup h.nd,sS h.IN,λe he=>?_,h.lost,?_,h.F4,λe he=>h.ok e (hs.subset he),λk' hk'=>?_⟩
 ·obtain⟨h1,h2⟩:=List.mem_filter.1 he
  have hne:¬ k=cY e:=λe'=>by simp [e'] at h2
  show mget (jV q.dA k) (cY e)=some e
  rw [pG h.IN,if_neg hne]
  exact h.E8 e h1
 ·have:=hs.length_le
  have:=h.len
  show((r.fL.filter _).length:Int)<=r.bW
  omega
 ·show mget (jV q.dA k) k'=none
  rw [pG h.IN]
  by_cases e:k=k'
  ·rw [if_pos e]
  ·rw [if_neg e]
   refine h.Fe k' λhm=>hk' ?_
   obtain⟨x,hx,rfl⟩:=List.mem_map.1 hm
   exact List.mem_map.2 ⟨x,List.mem_filter.2 ⟨hx,by simpa using λe'=>e e'.symm⟩,rfl⟩
def zB (r:iH) (e:ak):iH×ak×Bool×Int:=
 if AG e=false then (r,zE,false,1)
 else if (r.fL.any λo=>decide (cY o=cY e)&&decide (uR e o<=0))=true then (r,zE,false,0)
 else if r.bW<(((r.fL.filter λo=>!decide (cY o=cY e))++[e]).length:Int) then (⟨r.bW,((r.fL.filter λo=>!decide (cY o=cY e))++[e]).drop 1,aE (r.bS+1)⟩,((r.fL.filter λo=>!decide (cY o=cY e))++[e]).getD 0 default,true,0)
 else (⟨r.bW,(r.fL.filter λo=>!decide (cY o=cY e))++[e],r.bS⟩,zE,false,0)
theorem Dl {L:List ak} (hn:(L.map cY).Nodup) {a b:ak} (ha:a∈L) (hb:b∈L) (h:cY a=cY b):a=b:=by
 induction L with
 | nil=>cases ha
 | cons x L ih=>
  rw [List.map_cons,List.nodup_cons] at hn
  rcases List.mem_cons.1 ha with ha1 | ha1
  ·rcases List.mem_cons.1 hb with hb1 | hb1
   ·rw [ha1,hb1]
   ·rw [ha1] at h
    exact absurd (List.mem_map.2 ⟨b,hb1,h.symm⟩) hn.1
  ·rcases List.mem_cons.1 hb with hb1 | hb1
   ·rw [hb1] at h
    exact absurd (List.mem_map.2 ⟨a,ha1,h⟩) hn.1
   ·exact ih hn.2 ha1 hb1
theorem xo (l:List ak) (e:ak):((l.map cY)++[cY e]).getD 0 default=cY ((l++[e]).getD 0 default):=by
 cases l with
 | nil=>rfl
 | cons x l=>rfl
theorem w6 {q:cF} {r:iH} (h:ue q r) {e:ak} (he:Sm e) (hlost:0<=r.bS/\r.bS<=1000000000):∃ q',Ev (λk=>gK.f k q e) ((zB r e).2.1,(zB r e).2.2.1,(zB r e).2.2.2,q')/\ue q' (zB r e).1:=by
 have hs:=h.short
 have hm:=(EZ he.zz).1
 have hkl:q.bA.length=r.fL.length:=by rw [h.keys,List.length_map]
 unfold gK.f zB
 cases hmay:AG e with
 | false=>rw [hmay] at hm;rw [if_pos rfl];exact⟨q,Ev.bind hm (Ev.ct rfl Ev.pure),h⟩
 | true=>
  rw [hmay] at hm
  rw [if_neg dc]
  have hd:=yu q (cY e) om
  have hr:=h.drop (cY e)
  generalize hM:(r.fL.filter λo=>!decide (cY o=cY e))=M at hr
  have hMl:M.length<=r.fL.length:=by rw [<- hM];exact List.length_filter_le _ _
  have hkn:cY e ∉ M.map cY:=λhh=>by
   obtain⟨x,hx,hxe⟩:=List.mem_map.1 hh
   rw [<- hM] at hx
   have:=(List.mem_filter.1 hx).2
   simp [hxe] at this
  have hkM:q.bA.filter (λx=>!decide (x=cY e))=M.map cY:=hr.keys
  rw [hkM] at hd hr
  have hok:∀ x∈M++[e],OkP x:=λx hx=>by
   rcases List.mem_append.1 hx with hx | hx
   ·exact hr.ok x hx
   ·rw [List.mem_singleton.1 hx];exact⟨he,hmay⟩
  have hndM:((M++[e]).map cY).Nodup:=by
   rw [List.map_append,List.nodup_append]
   refine⟨hr.nd,sM,λa ha b hb=>?_⟩
   simp at hb;subst hb
   exact λe'=>hkn (e' ▸ ha)
  have hgot:∀ x∈M++[e],mget (mput (jV q.dA (cY e)) (cY e) e) (cY x)=some x:=λx hx=>by
   rw [ir]
   rcases List.mem_append.1 hx with hx | hx
   ·rw [if_neg (λe'=>hkn (by rw [e'];exact List.mem_map.2 ⟨x,hx,rfl⟩))]
    exact hr.E8 x hx
   ·rw [List.mem_singleton.1 hx,if_pos rfl]
  have hnon:∀ k,k ∉ (M++[e]).map cY->mget (mput (jV q.dA (cY e)) (cY e) e) k=none:=λk hk=>by
   rw [List.map_append,List.mem_append] at hk
   rw [ir,if_neg (λe'=>hk (.inr (by rw [<- e'];simp)))]
   exact hr.Fe k λhh=>hk (.inl hh)
  have big:∃ q',Ev (λn=>(bZ.f n q (cY e)).bind λt688=>aF (t688.bA.length+([cY e]:List aZ).length<=9223372036854775807/\(t688.bA.length+([cY e]:List aZ).length)*64<=140737488355328) (cond (decide (((t688.bA++([cY e]:List aZ)).length:Int)<=t688.bw)) (some (zE,false,(0:Int),(⟨t688.bw,t688.bA++([cY e]:List aZ),mput t688.dA (cY e) e,t688.da⟩:cF))) (aF ((0:Int)<=0/\0<((t688.bA++([cY e]:List aZ)).length:Int)) (aF ((0:Int)<=0/\0<((t688.bA++([cY e]:List aZ)).length:Int)) ((bZ.f n (⟨t688.bw,t688.bA++([cY e]:List aZ),mput t688.dA (cY e) e,t688.da⟩:cF) ((t688.bA++([cY e]:List aZ)).getD ((0:Int).toNat) default)).bind λt700=>some ((mget (mput t688.dA (cY e) e) ((t688.bA++([cY e]:List aZ)).getD ((0:Int).toNat) default)).getD zE,true,(0:Int),(⟨t700.bw,t700.bA,t700.dA,aE (t700.da+1)⟩:cF)))))))
    ((if r.bW<((M++[e]).length:Int) then (⟨r.bW,(M++[e]).drop 1,aE (r.bS+1)⟩,(M++[e]).getD 0 default,true,(0:Int)) else ((⟨r.bW,M++[e],r.bS⟩:iH),zE,false,(0:Int))).2.1,(if r.bW<((M++[e]).length:Int) then (⟨r.bW,(M++[e]).drop 1,aE (r.bS+1)⟩,(M++[e]).getD 0 default,true,(0:Int)) else ((⟨r.bW,M++[e],r.bS⟩:iH),zE,false,(0:Int))).2.2.1,(if r.bW<((M++[e]).length:Int) then (⟨r.bW,(M++[e]).drop 1,aE (r.bS+1)⟩,(M++[e]).getD 0 default,true,(0:Int)) else ((⟨r.bW,M++[e],r.bS⟩:iH),zE,false,(0:Int))).2.2.2,q')/\
    ue q' (if r.bW<((M++[e]).length:Int) then (⟨r.bW,(M++[e]).drop 1,aE (r.bS+1)⟩,(M++[e]).getD 0 default,true,(0:Int)) else ((⟨r.bW,M++[e],r.bS⟩:iH),zE,false,(0:Int))).1:=by
   have hm1:=h.C4
   have hl2:((M.map cY++[cY e]).length:Int)=((M++[e]).length:Int):=sM
   by_cases hc:r.bW<((M++[e]).length:Int)
   ·simp only [if_pos hc]
    have hpos:0<(M++[e]).length:=sM
    obtain⟨f,N,hf⟩:∃ f N,M++[e]=f::N:=by
     cases hMe:M++[e] with
     | nil=>rw [hMe] at hpos;simp at hpos
     | cons f N=>exact⟨f,N,rfl⟩
    have hkf:(M.map cY++[cY e]).getD ((0:Int).toNat) default=cY f:=by
     rw [show((0:Int).toNat)=0 from rfl,xo,hf];rfl
    have hd2:=yu ⟨q.bw,M.map cY++[cY e],mput (jV q.dA (cY e)) (cY e) e,q.da⟩ (cY f) (by simp;omega)
    have hfn:cY f ∉ N.map cY:=by rw [hf,List.map_cons,List.nodup_cons] at hndM;exact hndM.1
    have hNk:((M.map cY++[cY e]).filter λx=>!decide (x=cY f))=N.map cY:=by
     have:M.map cY++[cY e]=cY f::N.map cY:=by rw [<- List.map_singleton,<- List.map_append,hf];rfl
     rw [this,List.filter_cons,dT rfl]
     refine List.filter_eq_self.2 λa ha=>?_
     have hne:¬ a=cY f:=λe'=>hfn (by rw [<- e'];exact ha)
     rw [dF hne];rfl
    have hgf:(mget (mput (jV q.dA (cY e)) (cY e) e) (cY f)).getD zE=f:=by rw [hgot f (by rw [hf];simp)];rfl
    refine⟨⟨q.bw,N.map cY,jV (mput (jV q.dA (cY e)) (cY e) e) (cY f),aE (q.da+1)⟩,?_,?_⟩
    ·refine Ev.bind hd (Ev.aF ⟨by simp;omega,by simp;omega⟩ (Ev.cf (dF (by show ¬ (((M.map cY++[cY e]).length:Int)<=q.bw);rw [hl2,hm1];omega)) (Ev.aF ⟨Int.le_refl 0,sM⟩ (Ev.aF ⟨Int.le_refl 0,sM⟩ ?_))))
     rw [hkf,hgf]
     have hfe:(M++[e]).getD 0 default=f:=by rw [hf];rfl
     rw [hfe]
     refine Ev.bind hd2 (Ev.of ?_)
     rw [hNk]
    ·have hN:(M++[e]).drop 1=N:=by rw [hf];rfl
     show ue _ ⟨r.bW,(M++[e]).drop 1,aE (r.bS+1)⟩
     rw [hN]
     refine⟨hm1,rfl,?_,sS (qQ (sS h.IN)),λx hx=>?_,by show aE (q.da+1)=_;rw [h.lost],?_,h.F4,λx hx=>hok x (by rw [hf];exact List.mem_cons_of_mem _ hx),λk hk=>?_⟩
     ·rw [hf,List.map_cons,List.nodup_cons] at hndM;exact hndM.2
     ·show mget (jV _ (cY f)) (cY x)=some x
      rw [pG (qQ (sS h.IN)),if_neg (λe'=>hfn (by rw [e'];exact List.mem_map.2 ⟨x,hx,rfl⟩))]
      exact hgot x (by rw [hf];exact List.mem_cons_of_mem _ hx)
     ·have h5:(M++[e]).length=N.length+1:=by rw [hf];rfl
      have h6:=h.len
      rw [List.length_append,List.length_singleton] at h5
      show(N.length:Int)<=r.bW
      omega
     ·show mget (jV _ (cY f)) k=none
      rw [pG (qQ (sS h.IN))]
      by_cases e':cY f=k
      ·rw [if_pos e']
      ·rw [if_neg e']
       refine hnon k (λh7=>?_)
       rw [hf,List.map_cons,List.mem_cons] at h7
       rcases h7 with h7 | h7
       ·exact e' h7.symm
       ·exact hk h7
   ·simp only [if_neg hc]
    refine⟨⟨q.bw,M.map cY++[cY e],mput (jV q.dA (cY e)) (cY e) e,q.da⟩,?_,?_⟩
    ·exact Ev.bind hd (Ev.aF ⟨by simp;omega,by simp;omega⟩ (Ev.ct (dT (by show(((M.map cY++[cY e]).length:Int)<=q.bw);rw [hl2,hm1];omega)) Ev.pure))
    ·refine⟨hm1,by show _=(M++[e]).map cY;simp,hndM,qQ (sS h.IN),hgot,h.lost,?_,h.F4,hok,hnon⟩
     show((M++[e]).length:Int)<=r.bW
     omega
  refine(?_:∃ q',Ev _ _/\_)
  cases hg:mget q.dA (cY e) with
  | none=>
   have hne:∀ o∈r.fL,¬ cY o=cY e:=λo ho hh=>by have:=h.E8 o ho;rw [hh,hg] at this;cases this
   have hany:(r.fL.any λo=>decide (cY o=cY e)&&decide (uR e o<=0))=false:=List.any_eq_false.2 λa ha=>by simp [hne a ha]
   rw [hany,if_neg dc]
   obtain⟨q',b1,b2⟩:=big
   exact⟨q',Ev.bind hm (Ev.cf rfl (Ev.bind (Ev.of (wa e)) (by rw [hg];exact Ev.cf rfl b1))),b2⟩
  | some o=>
   have ho:o∈r.fL/\cY o=cY e:=by
    have hmem:cY e∈r.fL.map cY:=Classical.byContradiction λhh=>by rw [h.Fe _ hh] at hg;cases hg
    obtain⟨x,hx,hxe⟩:=List.mem_map.1 hmem
    have:=h.E8 x hx
    rw [hxe,hg] at this
    cases this
    exact⟨hx,hxe⟩
   have hany:(r.fL.any λo=>decide (cY o=cY e)&&decide (uR e o<=0))=decide (uR e o<=0):=by
    rw [Bool.eq_iff_iff]
    simp only [List.any_eq_true,Bool.and_eq_true,decide_eq_true_eq]
    constructor
    ·rintro⟨x,hx,hxe,hxc⟩
     rw [Dl h.nd ho.1 hx (ho.2.trans hxe.symm)];exact hxc
    ·exact λhh=>⟨o,ho.1,ho.2,hh⟩
   have hlat:Ev (λk=>kM.f k e o) (decide (0<uR e o)):=by
    unfold kM.f
    exact Ev.bind (Ev.of (wa e)) (Ev.bind (Ev.of (wa o)) (Ev.ct (dT ho.2.symm) (Ev.bind (Ia he (h.ok o ho.1).sm) Ev.pure)))
   rw [hany]
   by_cases hc:uR e o<=0
   ·rw [if_pos (dT hc)]
    have hf:decide (0<uR e o)=false:=dF om
    rw [hf] at hlat
    exact⟨q,Ev.bind hm (Ev.cf rfl (Ev.bind (Ev.of (wa e)) (by rw [hg];exact Ev.ct rfl (Ev.bind hlat (Ev.ct rfl Ev.pure))))),h⟩
   ·rw [if_neg (by simpa using hc)]
    have hf:decide (0<uR e o)=true:=dT om
    rw [hf] at hlat
    obtain⟨q',b1,b2⟩:=big
    exact⟨q',Ev.bind hm (Ev.cf rfl (Ev.bind (Ev.of (wa e)) (by rw [hg];exact Ev.ct rfl (Ev.bind hlat (Ev.cf rfl b1))))),b2⟩
theorem A8 {a:Int} (h:0<=a/\a<=1099511627776):Ev (λk=>dy.f k ⟨⟨a⟩,1099511627776⟩) (if a=1099511627776 then (0,11,⟨⟨a⟩,1099511627776⟩) else (a+1,0,⟨⟨a+1⟩,1099511627776⟩)):=by
 unfold dy.f clock_Counter_Add.f
 by_cases e:a=1099511627776
 ·subst e
  rw [if_pos rfl]
  refine Ev.bind (Ev.cf rfl (El.diag (F:=λk j=>clock_Counter_Add.l0 k ⟨⟨1099511627776⟩,1099511627776⟩ 1 j) (a:=(0,11,⟨⟨1099511627776⟩,1099511627776⟩)) ?_)) Ev.pure
  refine El.step (λ_ _=>by rw [clock_Counter_Add.l0]) ?_
  exact El.ct rfl (El.ct rfl El.pure)
 ·rw [if_neg e]
  refine Ev.bind (Ev.cf rfl (El.diag (F:=λk j=>clock_Counter_Add.l0 k ⟨⟨a⟩,1099511627776⟩ 1 j) (a:=(a+1,0,⟨⟨a+1⟩,1099511627776⟩)) ?_)) Ev.pure
  refine El.step (λ_ _=>by rw [clock_Counter_Add.l0]) ?_
  have hw:aE (1099511627776-a)=1099511627776-a:=c7 om om
  have hw2:aE (a+1)=a+1:=c7 om om
  refine El.ct rfl (El.cf (by rw [beq_eq_false_iff_ne];exact e) (El.bind (a:=a+1) ?_ (El.cf rfl El.pure)))
  show El (λ_ _=>cond (decide (1<aE (1099511627776-a))) (some (aE (a+1))) (some 1099511627776)) (a+1)
  rw [hw,hw2]
  by_cases e2:1<1099511627776-a
  ·exact El.ct (dT e2) El.pure
  ·have:a+1=1099511627776:=om
   exact El.cf (dF e2) (by rw [this];exact El.pure)
end Go.Proofs.YtelcbdmigiacpaaGreat
