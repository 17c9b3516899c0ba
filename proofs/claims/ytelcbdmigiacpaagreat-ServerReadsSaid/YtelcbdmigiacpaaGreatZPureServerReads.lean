import Derived.Test.YtelcbdmigiacpaaGreatZSK
set_option linter.all false
set_option maxRecDepth 10000
namespace Go.Proofs.YtelcbdmigiacpaaGreat
open Go Go.Sp
theorem Cr {u:BA} (h1:1<=u.size) (h2:bt u 0≠58) (h:0<=kV (u.extract 1 u.size) 58):kV u 58=kV (u.extract 1 u.size) 58+1:=by
 have hs:(u.extract 1 u.size).size=u.size-1:=j7 (Nat.le_refl _)
 have hf:=oZ (u.extract 1 u.size) 58
 rw [show(((58:UInt8).toNat:Int))=58 from rfl] at hf
 have hu:=oZ u 58
 rw [show(((58:UInt8).toNat:Int))=58 from rfl] at hu
 refine rW hu ?_
 rcases hf with⟨h3,_⟩|⟨j,h3,h4,h5,h6⟩
 ·omega
 ·rw [hs] at h4
  rw [qK om (Nat.le_refl _)] at h5
  refine .inr ⟨j+1,by rw [h3];omega,om,by rw [<- h5];congr 1;omega,λi hi=>?_⟩
  cases i with
  | zero=>exact h2
  | succ i=>
   have:=h6 i om
   rw [qK om (Nat.le_refl _)] at this
   rw [show((i+1:Nat):Int)=((1+i:Nat):Int) by omega];exact this
theorem FU (s:BA) (j:Nat):(s.extract 1 s.size).extract j (s.extract 1 s.size).size=s.extract (j+1) s.size:=by
 refine Ib ?_
 rw [Al,Al,Al]
 have hs:(s.extract 1 s.size).size=s.size-1:=j7 (Nat.le_refl _)
 have hl:s.data.toList.length=s.size:=rfl
 rw [hs,List.take_of_length_le (by rw [List.length_drop,List.length_take];omega),List.drop_drop,Nat.add_comm 1 j]
theorem Cz {u:BA} (h:dh u 64=true):ko (oV u)=true/\(oV u).size<=u.size:=by
 have hh:=h
 unfold oV
 rw [if_pos (.inl h)]
 unfold dh at h
 split at h
 ·rename_i c
  simp only at h
  split at h
  ·rename_i c2
   have e:=Cr c.1 (by rw [c.2];decide) c2
   have h:=(Bool.and_eq_true_iff.1 h).2
   rw [FU] at h
   refine⟨?_,by rw [ByteArray.size_extract];omega⟩
   rw [e]
   rw [show(kV (u.extract 1 u.size) 58+1).toNat+1=(kV (u.extract 1 u.size) 58).toNat+1+1 by omega]
   exact h
  ·cases h
 ·cases h
theorem CA {m:bM} {L:List Event} (hg:RG L) (hT:T m=tb L):∃ us,Ev (λk=>kA.f k m) us/\us.length<=1000/\∀ u∈us,∃ e∈L,e.aC=u:=by
 have hj:=Dy (nG (tb L)) []
 have ha:=Fx hg hT
 have hl:(jm (nG (tb L))).length<=1000:=by unfold jm;rw [List.length_nil] at hj;omega
 refine⟨aY ((jm (nG (tb L))).map (·.1)),?_,by rw [pA,List.length_map];exact hl,λu hu=>?_⟩
 ·unfold kA.f
  exact Ev.bind (wI (Hs hg hT)) (Ev.aF om Ev.pure)
 ·rw [yZ,np,(EG hg hT u).2,(Hx hg hT _).2] at hu
  obtain⟨i,_,hi,e⟩:=Ha hg hT hu
  exact⟨_,zU hi,e⟩
theorem Ah (xs:List BA):(l9 xs).length<=xs.length:=by
 unfold l9 Lib.compact Lib.compactUpTo
 rw [List.length_map,List.length_map]
 refine Nat.le_trans (List.length_filter_le ..) ?_
 simp
theorem CZ {us:List BA} (hu:∀ u∈us,u.size<=maxLen) (hl:us.length<=10000):∃ r,Ev (λk=>member_Homes.f k us) r/\r.length<=us.length/\∀ x∈r,x∈lr us:=by
 have h1:=zA hu om _ 0 rfl om [] sM
 rw [List.nil_append,List.drop_zero] at h1
 have hh:=AL us
 refine⟨l9 (aY (lr us)),?_,?_,λx hx=>by rwa [AV,yZ] at hx⟩
 ·unfold member_Homes.f
  exact Ev.bind h1.diag (Ev.bind (a:=aY (lr us)) (Ev.aF (by show(lr us).length<_;omega) Ev.pure) (Ev.bind (a:=l9 (aY (lr us))) (Ev.aF (by rw [pA];show(lr us).length<=_;omega) Ev.pure) Ev.pure))
 ·have:=Ah (aY (lr us));rw [pA] at this;omega
def UN (w:dm):Prop:=∀ room,∀ e∈(kc w room).fL,dh e.aC 64=true
theorem De {v:au} {w:dm} (hr:yj v w) (hd:∀ room,(kc w room).fL.length<=1000) (hU:UN w) (room:BA):∃ r,Ev (λk=>eX.f k v room) r/\r.length<=1000/\∀ s∈r,ko s=true/\s.size<=maxLen:=by
 obtain⟨m,m1,m2,_⟩:=q8 hr room
 obtain⟨us,u1,u2,u3⟩:=CA (rg_of m2 (hd room)) m2.Fc
 have hus:∀ u∈us,dh u 64=true/\u.size<=maxLen:=λu hu=>by
  obtain⟨e,he,rfl⟩:=u3 u hu
  exact⟨hU room e he,m2.usr e he⟩
 obtain⟨r,r1,r2,r3⟩:=CZ (λu hu=>(hus u hu).2) om
 refine⟨r,?_,om,λs hs=>?_⟩
 ·unfold eX.f ll.f
  exact Ev.bind (Ev.of m1) (Ev.bind (Ev.bind u1 (Ev.bind r1 Ev.pure)) Ev.pure)
 ·have:=r3 s hs
  unfold lr at this
  rw [List.mem_filter,List.mem_map] at this
  obtain⟨⟨u,hu,rfl⟩,_⟩:=this
  have h1:=hus u hu
  have h2:=Cz h1.1
  exact⟨h2.1,om⟩
structure LG (d:bE) (n:Nat):Prop where
 at_:0<=d.dA.fn.fv/\d.dA.fn.fv<=(n:Int)
 C4:d.dA.bw=1099511627776
 len:d.bA.length<=n
 has:∀ k,(mget d.qw k).isSome=true->k∈d.bA
theorem IJ:LG ⟨⟨⟨0⟩,1099511627776⟩,[],[]⟩ 0:=⟨sM,rfl,sM,λk h=>by cases h⟩
theorem CB {d:bE} {n:Nat} (h:LG d n) (hn:n<=900) (key:BA):∃ x d',Ev (λk=>jA.f k d key) (x,0,d')/\LG d' (n+1):=by
 obtain⟨⟨a1,a2⟩,hm,hl,hh⟩:=h
 have e0:d.dA=⟨⟨d.dA.fn.fv⟩,1099511627776⟩:=by rw [<- hm]
 have nx:=A8 (a:=d.dA.fn.fv) ⟨a1,om⟩
 rw [if_neg om,<- e0] at nx
 have fin:∀ {K:List BA},K.length<=n->(∀ k,(mget d.qw k).isSome=true->k∈K++[key])->∃ x d',Ev (λ_=>aF (K.length+([key]:List BA).length<=9223372036854775807/\(K.length+([key]:List BA).length)*16<=140737488355328) (some (d.dA.fn.fv+1,(0:Int),(⟨⟨⟨d.dA.fn.fv+1⟩,1099511627776⟩,K++([key]:List BA),mput d.qw key (d.dA.fn.fv+1)⟩:bE)))) (x,0,d')/\LG d' (n+1):=λ{K} hk hK=>
  ⟨_,_,Ev.aF (by rw [List.length_singleton];omega) Ev.pure,⟨⟨by show(0:Int)<=_+1;omega,by show _+1<=_;omega⟩,rfl,by rw [List.length_append,List.length_singleton];omega,λk hs=>by
   rw [ir] at hs
   by_cases e:key=k
   ·rw [e];simp
   ·rw [if_neg e] at hs;exact hK k hs⟩⟩
 unfold jA.f
 cases hs:(mget d.qw key).isSome with
 | false=>
  obtain⟨x,d',f1,f2⟩:=fin hl (λk hk=>List.mem_append_left _ (hh k hk))
  exact⟨x,d',Ev.bind nx (Ev.cf rfl (Ev.bind (Ev.cf rfl Ev.pure) f1)),f2⟩
 | true=>
  obtain⟨A,B,e,hA⟩:∃ A B,d.bA=A++key::B/\∀ a∈A,a≠key:=by
   have:=List.append_of_mem (hh key hs)
   exact List.eq_append_cons_of_mem (hh key hs) |>.imp λA h=>h.imp λB h=>⟨h.1,λa ha e=>h.2 (e ▸ ha)⟩
  have hi:=CF B A hA (by rw [<- e];omega)
  have hl2:(A++key::B).length<=n:=by rw [<- e];exact hl
  have hl3:(A++key::B).length=A.length+B.length+1:=by simp;omega
  have hd:eI.f (A++key::B) (A.length:Int) (aE ((A.length:Int)+1))=some (A++B):=by
   unfold eI.f
   rw [c7 om om]
   refine(if_pos ⟨om,om,om⟩).trans ?_
   rw [Int.toNat_natCast,show((A.length:Int)+1).toNat=A.length+1 by omega,List.take_left',List.drop_append]
   simp
   rfl
  obtain⟨x,d',f1,f2⟩:=fin (K:=A++B) (by simp;omega) (λk hk=>by
   have:=hh k hk
   rw [e] at this
   simp only [List.mem_append,List.mem_cons,List.mem_singleton,List.not_mem_nil,or_false] at this ⊢
   rcases this with h | h | h
   ·exact .inl (.inl h)
   ·exact .inr h
   ·exact .inl (.inr h))
  rw [<- e] at hi hd
  exact⟨x,d',Ev.bind nx (Ev.cf rfl (Ev.bind (Ev.ct rfl (Ev.bind hi (Ev.bind (Ev.of hd) Ev.pure))) f1)),f2⟩
def s1:BA:=⟨#[115,49]⟩
def big:Int:=1099511627776
def S0 (v:au):bY:=⟨⟨#[115,49]⟩,⟨⟨0⟩,1099511627776⟩,⟨⟨0⟩,1099511627776⟩,⟨v,⟨⟨[]⟩,⟨8,[],0⟩⟩,⟨[],⟨[],[]⟩⟩,⟨[],⟨[],[]⟩⟩,⟨⟨⟨0⟩,1099511627776⟩,[],[]⟩⟩,⟨32,[]⟩,[]⟩
def R0 (w:dm):rL:=⟨⟨#[115,49]⟩,0,0,w,⟨[],⟨8,[],0⟩⟩,⟨[],[]⟩,⟨[],[]⟩,[],0,[],[]⟩
theorem arr1 {v:au} {w:dm} (o:zT v w) (room id:BA):Ev (λk=>marks_Marks_Arrive.f k ⟨⟨[]⟩,⟨8,[],0⟩⟩ v room id) ([],⟨⟨[]⟩,⟨8,[],0⟩⟩):=by
 unfold marks_Marks_Arrive.f
 refine Ev.bind (sH o.rel (Nat.le_trans o.ly dc) room id (o.len room)).1 ?_
 cases (mE (kc w room).fL id).2 with
 | false=>exact Ev.ct rfl Ev.pure
 | true=>
  refine Ev.cf rfl (Ev.add 1 λm=>?_)
  rfl
theorem arr2 {v:au} {w:dm} (o:zT v w) (room id:BA):Ev (λk=>eM.f k ⟨[],⟨8,[],0⟩⟩ w room id) (⟨[],⟨8,[],0⟩⟩,[]):=by
 unfold eM.f
 refine Ev.bind (sH o.rel (Nat.le_trans o.ly dc) room id (o.len room)).2 ?_
 cases (mE (kc w room).fL id).2 with
 | false=>exact Ev.ct rfl Ev.pure
 | true=>
  refine Ev.cf rfl (Ev.add 1 λm=>?_)
  rfl
theorem Dz {L:List Event} {x:Nat} (hx:x<L.length) (hL:L.length<=18) {v v1:au} {w w1:dm} (o:zT v1 w1) (a:Ev (λk=>iU.f k v (ev L x)) (0,v1)) (b:Ev (λk=>eT.f k w (ev L x)) (w1,0)):
  Ev (λk=>lv.f k ⟨S0 v,R0 w,L,(x:Int)⟩) (true,⟨S0 v1,R0 w1,L,((x+1:Nat):Int)⟩):=by
 have i0:aE ((x:Int)+1)=((x+1:Nat):Int):=uS om
 have i1:aE (((x+1:Nat):Int)-1)=(x:Int):=by rw [c7 om om];omega
 unfold lv.f
 simp only [i0,i1]
 refine Ev.cf (dF (by show ¬ (L.length:Int)<=(x:Int);omega)) (Ev.aF ⟨by show(0:Int)<=(x:Int);omega,by show(x:Int)<(L.length:Int);omega⟩ ?_)
 refine Ev.bind (a:=(R0 w1,0)) ?_ (Ev.aF ⟨by show(0:Int)<=(x:Int);omega,by show(x:Int)<(L.length:Int);omega⟩ (Ev.bind (a:=(0,S0 v1)) ?_ Ev.pure))
 ·unfold kL.f
  refine Ev.bind b (Ev.cf rfl (Ev.bind (arr2 o _ _) (Ev.bind (a:=(0,false,R0 w1)) ?_ Ev.pure)))
  exact Ev.add 1 λm=>rfl
 ·unfold server_Server_Event.f
  refine Ev.bind a (Ev.cf rfl (Ev.bind (a:=(0,0,false,S0 v1,[])) ?_ Ev.pure))
  refine Ev.bind (arr1 o _ _) ?_
  exact Ev.add 1 λm=>rfl
theorem CW {L:List Event} (hL:L.length<=18) {v':au} {w':dm}:∀ n x:Nat,18-x=n->x<=18->∀ v w,sj v w (L.drop x) v' w'->
  El (λk j=>aN.l1 k j (x:Int) ⟨S0 v,R0 w,L,((min x L.length:Nat):Int)⟩) (18,false,⟨S0 v',R0 w',L,(L.length:Int)⟩):=by
 intro n
 induction n with
 | zero=>
  intro x hn hx v w h
  obtain rfl:x=18:=om
  rw [List.drop_eq_nil_of_le hL] at h
  cases h
  refine El.step (λ_ _=>by rw [aN.l1]) ?_
  rw [Nat.min_eq_right hL]
  exact El.cf rfl El.pure
 | succ n ih=>
  intro x hn hx v w h
  refine El.step (λ_ _=>by rw [aN.l1]) ?_
  rw [uS (show x<=1000000 by omega)]
  refine El.ct (dT om) ?_
  by_cases hl:x<L.length
  ·rw [HA hl] at h
   cases h with
   | cons o a b c=>
    have:=ih (x+1) om om _ _ c
    rw [Nat.min_eq_left om] at this
    rw [Nat.min_eq_left om]
    exact El.bind (Dz hl hL c.ok a b).el this
  ·rw [List.drop_eq_nil_of_le om] at h
   have:=ih (x+1) om om v w (by rw [List.drop_eq_nil_of_le om];exact h)
   rw [Nat.min_eq_right om] at this
   rw [Nat.min_eq_right om]
   refine El.bind (Ev.el (a:=(true,⟨S0 v,R0 w,L,(L.length:Int)⟩)) ?_) this
   unfold lv.f
   exact Ev.ct (dT (by show(L.length:Int)<=(L.length:Int);omega)) Ev.pure
theorem DW {a b:List dV} {L:List Event} (h:Ev (λk=>oF.f k a b) L):Ev (λk=>oy.f k a b 0 0) (some ⟨S0 ⟨[]⟩,R0 ⟨[]⟩,L,0⟩):=by
 have m2:(2:Nat)<=maxLen:=dc
 have h1:=uF (s:=⟨#[115,49]⟩) m2
 rw [show ko ⟨#[115,49]⟩=true from by decide +kernel] at h1
 unfold oy.f l8.f
 exact Ev.bind (Ev.bind h1 (Ev.of rfl)) (Ev.cf rfl (Ev.cf rfl (Ev.bind (Ev.of rfl) (Ev.bind h Ev.pure))))
theorem yV {room:BA} {L:List Event} (h:rR room L):∀ e∈L,dh e.aC 64=true:=λe he=>by
 obtain⟨i,hi,rfl⟩:=List.getElem_of_mem he
 have h1:=(Aw (h i hi).2.2).1
 have e1:ev L i=L[i]:=by unfold ev;rw [gD,gE hi];rfl
 rw [e1] at h1
 unfold pJ at h1;simp at h1;exact h1.2.2.1
theorem Hh {a b:List dV} (ha:a.length<=maxLen/\∀ x∈a,dV.ok x) (hb:b.length<=maxLen/\∀ x∈b,dV.ok x):∃ L v w,Ev (λk=>oF.f k a b) L/\L.length<=18/\sj ⟨[]⟩ ⟨[]⟩ L v w/\UN w:=by
 have r0:iK.f 0=some Bl:=rfl
 have r1:iK.f 1=some BL:=rfl
 obtain⟨A,a1,a2,a3⟩:=Bm (room:=Bl) (List.mem_of_getElem? (i:=0) rfl) ha.1 ha.2
 obtain⟨B,b1,b2,b3⟩:=Bm (room:=BL) (List.mem_of_getElem? (i:=1) rfl) hb.1 hb.2
 have la:=a2.len
 have lb:=b2.len
 have hne:BL≠Bl:=dc
 obtain⟨v1,w1,c1,c3,c4,c5⟩:=vJ a3 om _ 0 rfl om ⟨[]⟩ ⟨[]⟩ FQ (by simp;omega) (by simp [kc])
 obtain⟨v2,w2,d1,d3,d4,d5⟩:=vJ b3 om _ 0 rfl om v1 w1 c1.ok2 (by simp at c3;omega) (by rw [c5 _ hne];simp [kc])
 refine⟨A++B,v2,w2,?_,by rw [List.length_append];omega,c1.app d1,λroom e he=>?_⟩
 ·unfold oF.f
  refine Ev.bind (Ev.of r0) (Ev.bind a1 (Ev.aF ⟨by simp;omega,by simp;omega⟩ (Ev.bind (Ev.of r1) (Ev.bind b1 (Ev.aF ⟨by simp;omega,by simp;omega⟩ (Ev.of sM))))))
 ·by_cases h1:room=BL
  ·rw [h1,d4] at he;exact yV b3 e he
  ·rw [d5 _ h1] at he
   by_cases h2:room=Bl
   ·rw [h2,c4] at he;exact yV a3 e he
   ·rw [c5 _ h2] at he;simp [kc] at he
theorem EO {α:Type} [BEq α] [LawfulBEq α]:∀ {l m:List α},l.Nodup->(∀ x∈l,x∈m)->l.length<=m.length
 | [],_,_,_=>Nat.zero_le _
 | a::l,m,h,k=>by
  have ha:=k a (List.mem_cons_self ..)
  rw [List.nodup_cons] at h
  have:=EO (m:=m.erase a) h.2 λx hx=>(List.mem_erase_of_ne (λe:x=a=>h.1 (by rw [<- e];exact hx))).2 (k x (List.mem_cons_of_mem _ hx))
  rw [List.length_erase_of_mem ha] at this
  have:=List.length_pos_of_mem ha
  rw [List.length_cons];omega
theorem HV {M:List MK} {k:aM} {q:Pos} (h:gM M k=some q):k∈M.map (·.fK):=by
 refine Classical.byContradiction λhn=>?_
 rw [xp λm hm e=>hn (List.mem_map.2 ⟨m,hm,e⟩)] at h;cases h
theorem GO {α:Type} {m:List (aM×α)} {e:aM×α} (h:Nd m) (he:e∈m):mget m e.1=some e.2:=by
 induction m with
 | nil=>cases he
 | cons x m ih=>
  unfold Nd at h
  rw [List.map_cons,List.nodup_cons] at h
  simp only [mget]
  rcases List.mem_cons.1 he with rfl | he
  ·simp
  ·rw [if_neg λhx=>h.1 (by rw [hx];exact List.mem_map.2 ⟨e,he,rfl⟩)]
   exact ih h.2 he
theorem D6 {l:List dW} {x:Nat} (hx:x<l.length):dW.K.at l (x:Int)=l[x]:=by
 rw [BJ l x default hx,gD,gE hx];rfl
theorem Gz {l:List dW} (hl:l.length<=1000) (key:aM) {p:Pos} (h1:∀ m∈l,m.kD=key->m.sJ=p) (h0:(∀ m∈l,m.kD≠key)->p=⟨0,⟨#[]⟩⟩):Ev (λk=>eA.f k l key) p:=by
 have lp:∀ n x:Nat,l.length-x=n->x<=l.length->(El (λk j=>eA.l0 k l key j (x:Int)) (.inl ((l.length:Int),false))/\∀ m∈l.drop x,m.kD≠key)\/El (λk j=>eA.l0 k l key j (x:Int)) (.inr p):=by
  intro n
  induction n with
  | zero=>
   intro x hn hx
   obtain rfl:x=l.length:=om
   refine .inl ⟨El.step (λ_ _=>by rw [eA.l0]) ?_,λm hm=>by rw [List.drop_length] at hm;cases hm⟩
   exact El.cf sM (by simpa using El.pure)
  | succ n ih=>
   intro x hn hx
   have hx2:x<l.length:=om
   have st:∀ {r},El (λk j=>cond (decide (l[x].kD=key)) (some (.inr l[x].sJ)) (eA.l0 k l key j ((x+1:Nat):Int))) r->El (λk j=>eA.l0 k l key j (x:Int)) r:=λ{r} h=>by
    refine El.step (λ_ _=>by rw [eA.l0]) ?_
    rw [uS (show x<=1000000 by omega),D6 hx2]
    refine El.ct (dT om) (El.aF ⟨om,om⟩ ?_)
    by_cases c:l[x].kD=key
    ·exact El.ct (dT c) (El.aF ⟨om,om⟩ (by rw [dT c] at h;exact h))
    ·exact El.cf (dF c) (by rw [dF c] at h;exact h)
   by_cases c:l[x].kD=key
   ·rw [<- h1 _ (List.getElem_mem hx2) c]
    exact .inr (st (El.ct (dT c) El.pure))
   ·rcases ih (x+1) om om with⟨a,b⟩ | a
    ·refine .inl ⟨st (El.cf (dF c) a),λm hm=>?_⟩
     rw [List.drop_eq_getElem_cons hx2] at hm
     rcases List.mem_cons.1 hm with rfl | hm
     ·exact c
     ·exact b m hm
    ·exact .inr (st (El.cf (dF c) a))
 unfold eA.f
 rcases lp _ 0 rfl (Nat.zero_le _) with⟨a,b⟩ | a
 ·rw [h0 b];exact Ev.bind a.diag Ev.pure
 ·exact Ev.bind a.diag Ev.pure
theorem I4 {l:List dW} (hl:l.length<=1000) (hp:∀ m∈l,m.kD.ay=false):Ev (λk=>slices_DeleteFunc_Mark.f k l eo.f) l:=by
 have lp:∀ n x:Nat,l.length-x=n->x<=l.length->El (λk j=>b7.l0 k l eo.f j (x:Int)) (.inl ((l.length:Int),false)):=by
  intro n
  induction n with
  | zero=>
   intro x hn hx
   obtain rfl:x=l.length:=om
   refine El.step (λ_ _=>by rw [b7.l0]) ?_
   exact El.cf sM (by simpa using El.pure)
  | succ n ih=>
   intro x hn hx
   have hx2:x<l.length:=om
   refine El.step (λ_ _=>by rw [b7.l0]) ?_
   rw [uS (show x<=1000000 by omega),D6 hx2]
   exact El.ct (dT om) (El.aF ⟨om,om⟩ (El.bind (Ev.of (show eo.f ⟨l[x].kD,l[x].sJ⟩=some false by rw [<- hp _ (List.getElem_mem hx2)];rfl)).el (El.cf rfl (ih (x+1) om om))))
 unfold slices_DeleteFunc_Mark.f b7.f
 exact Ev.bind (Ev.bind (lp _ 0 rfl (Nat.zero_le _)).diag Ev.pure) (Ev.ct rfl Ev.pure)
theorem zv {t:gP} {M:List MK} (h:uj t M) (hl:M.length<=1000) (hp:∀ m∈M,m.fK.ay=false):∃ l,Ev (λk=>fu.f k t) l/\∀ key,Ev (λk=>eA.f k l key) ((gM M key).getD ⟨0,⟨#[]⟩⟩):=by
 have hin:∀ e∈t.dA,gM M e.1=some e.2:=λe he=>by rw [<- h.get];exact GO h.nd he
 have ht:t.dA.length<=1000:=by
  have h1:=EO (l:=t.dA.map (·.1)) (m:=M.map (·.fK)) (show(t.dA.map (·.1)).Nodup from h.nd) λx hx=>by
   obtain⟨e,he,rfl⟩:=List.mem_map.1 hx
   exact HV (hin e he)
  rw [List.length_map,List.length_map] at h1;omega
 have hpw:(t.dA.map (λe:aM×Pos=>(⟨e.1,e.2⟩:dW))).Pairwise λx y=>ltOf aD.cf x y=true\/ltOf aD.cf y x=true:=by
  rw [List.pairwise_map]
  have h1:=h.nd
  unfold Nd at h1
  rw [List.Nodup,List.pairwise_map] at h1
  refine h1.imp λ{a b} hne=>?_
  show vm a.1 b.1=true\/vm b.1 a.1=true
  cases c1:vm a.1 b.1 with
  | true=>exact .inl rfl
  | false=>
   cases c2:vm b.1 a.1 with
   | true=>exact .inr rfl
   | false=>exact absurd (uu c1 c2) hne
 have hm:∀ m,m∈lW aD.cf (t.dA.map (λe:aM×Pos=>(⟨e.1,e.2⟩:dW)))↔(m.kD,m.sJ)∈t.dA:=λm=>by
  rw [(oD _).mem_iff,List.mem_map]
  exact⟨λ⟨e,he,hx⟩=>by rw [<- hx];exact he,λhe=>⟨_,he,rfl⟩⟩
 have hL:(lW aD.cf (t.dA.map (λe:aM×Pos=>(⟨e.1,e.2⟩:dW)))).length<=1000:=by
  rw [(oD _).length_eq,List.length_map];exact ht
 refine⟨_,?_,λkey=>Gz hL key (λm hm1 e=>?_) λhn=>?_⟩
 ·unfold fu.f iz.f
  refine Ev.bind (Ev.aF ⟨om,hpw⟩ Ev.pure) (Ev.bind (I4 hL λm hm1=>?_) Ev.pure)
  obtain⟨y,hy,e⟩:=List.mem_map.1 (HV (hin _ ((hm m).1 hm1)))
  have:=hp y hy
  rw [e] at this;exact this
 ·have:=hin _ ((hm m).1 hm1)
  rw [<- e,this];rfl
 ·cases hg:gM M key with
  | none=>rfl
  | some q=>
   have h1:(mget t.dA key).isSome=true:=by rw [h.get,hg];rfl
   rw [<- np] at h1
   obtain⟨e,he,rfl⟩:=List.mem_map.1 h1
   exact absurd rfl (hn ⟨e.1,e.2⟩ ((hm _).2 he))
abbrev eR (r u e th:BA) (s:Int):ak:=⟨1,r,u,e,th,false,false,0,0,0,s⟩
abbrev kR (r u th:BA):aM:=⟨r,u,th,false⟩
theorem DQ {r u e th:BA} {s:Int} (h:mb (eR r u e th 0)=true) (hs:0<=s/\s<=1000):mb (eR r u e th s)=true:=by
 have c3:decide (s<0)=false:=by rw [decide_eq_false_iff_not];omega
 have c4:decide (1099511627776<s)=false:=by rw [decide_eq_false_iff_not];omega
 unfold mb at *
 dsimp only at *
 rw [c3,c4];exact h
theorem IH {v:au} {w:dm} (o:zT v w) {S:bY} {M:List MK} (hv:S.fall.aK=v) (hm:uj S.fall.aA.j2 M) (r u e th:BA):
  ∃ c,Ev (λk=>ea.f k S (eR r u e th 0)) c/\(c=0->Ev (λ_=>eK.f v r e th) 0/\0<=ix (kc w r).fL e/\Df (gM M (kR r u th)) (mE (kc w r).fL e).1=true)/\(c=8->∃ q,gM M (kR r u th)=some q/\ltOf jy q (mE (kc w r).fL e).1=false):=by
 subst hv
 obtain⟨m,m1,m2,_⟩:=q8 o.rel r
 obtain⟨c,f1,_,f3,f4⟩:=Dt o.rel o.ly (o.len r) (λi hi=>(rg_of m2 (o.len r)).par _ (zU hi)) e th
 have hp:=(sH o.rel (Nat.le_trans o.ly dc) r e (o.len r)).1
 unfold ea.f
 by_cases c0:c=0
 ·subst c0
  have hg:=hm.get (kR r u th)
  cases hq:gM M (kR r u th) with
  | none=>
   obtain⟨t',a,b⟩:=uH vN (kR r u th) (mE (kc w r).fL e).1
   rw [show Df (gM [] (kR r u th)) (mE (kc w r).fL e).1=true from rfl] at b
   refine⟨0,Ev.bind f1 (Ev.cf rfl (Ev.bind hp (Ev.bind (Ev.of rfl) (Ev.bind (Ev.of rfl) (Ev.bind (a:=(⟨0,⟨#[]⟩⟩,false)) (Ev.of ?_) (Ev.cf rfl (Ev.bind (Ev.of rfl) (Ev.bind b (Ev.cf rfl Ev.pure))))))))),λ_=>⟨f1,f4 rfl,rfl⟩,λh=>absurd h dc⟩
   unfold eY.f
   rw [show mget S.fall.aA.j2.dA (kR r u th)=none from hg.trans hq];rfl
  | some q=>
   obtain⟨t',a,b⟩:=uH vN (kR r u th) q
   rw [show Df (gM [] (kR r u th)) q=true from rfl] at b
   obtain⟨t2,a2,b2⟩:=uH a (kR r u th) (mE (kc w r).fL e).1
   rw [show gM (putM [] (kR r u th) q) (kR r u th)=some q from if_pos rfl] at b2
   have hG:eY.f S.fall.aA.j2 (kR r u th)=some (q,true):=by
    unfold eY.f
    rw [show mget S.fall.aA.j2.dA (kR r u th)=some q from hg.trans hq];rfl
   have pre:∀ {c:Int},Ev (λ_=>cond (!Df (some q) (mE (kc w r).fL e).1) (some (8:Int)) (some 0)) c->Ev (λk=>ea.f k S (eR r u e th 0)) c:=λ{c} h=>by
    unfold ea.f
    exact Ev.bind f1 (Ev.cf rfl (Ev.bind hp (Ev.bind (Ev.of rfl) (Ev.bind (Ev.of rfl) (Ev.bind (Ev.of hG) (Ev.ct rfl (Ev.bind (Ev.of rfl) (Ev.bind b (Ev.bind (Ev.of rfl) (Ev.bind b2 h))))))))))
   unfold ea.f at pre
   cases hb:ltOf jy q (mE (kc w r).fL e).1 with
   | true=>
    have h1:Df (some q) (mE (kc w r).fL e).1=true:=hb
    exact⟨0,pre (by rw [h1];exact Ev.pure),λ_=>⟨f1,f4 rfl,h1⟩,λh=>absurd h dc⟩
   | false=>
    have h1:Df (some q) (mE (kc w r).fL e).1=false:=hb
    exact⟨8,pre (by rw [h1];exact Ev.pure),λh=>absurd h dc,λ_=>⟨q,rfl,hb⟩⟩
 ·refine⟨c,Ev.bind f1 (Ev.ct (by simp [c0]) Ev.pure),λh=>absurd h c0,λh=>?_⟩
  rcases f3 with h' | h' | h' <;> rw [h'] at h <;> exact absurd h dc
theorem z7 {v:au} {w:dm} (o:zT v w) {S:bY} {M:List MK} {n:Nat} {j:Int} (hv:S.fall.aK=v) (hm:uj S.fall.aA.j2 M) (hs:S.aq=⟨⟨j⟩,1099511627776⟩) (hj:0<=j/\j<=1000) (hl:LG S.fall.bQ n) (hn:n<=900) {r u e th:BA} (ge:GE (eR r u e th 0)):
  ∃ c,Ev (λk=>ff.f k S (eR r u e th 0)) c/\(c=0->Ev (λ_=>eK.f v r e th) 0/\0<=ix (kc w r).fL e/\Df (gM M (kR r u th)) (mE (kc w r).fL e).1=true)/\(c=8->∃ q,gM M (kR r u th)=some q/\ltOf jy q (mE (kc w r).fL e).1=false):=by
 have hloc:=(wk ge.zz).1
 rw [ge.local] at hloc
 have hhome:=HW (s:=u) ge.zz.user
 have hjn:=jv o.rel o.ly o.len u r
 rw [<- hv] at hjn
 unfold ff.f
 by_cases c1:oV u=S.av
 ·cases hjb:jb w u r with
  | false=>
   rw [hjb] at hjn
   exact⟨5,Ev.bind (a:=(.inr 5:(Bool×Bool×Bool) ⊕ Int)) (Ev.bind hloc (Ev.cf rfl (Ev.bind hhome (Ev.cf (by rw [dT c1];rfl) (Ev.cf rfl (Ev.ct rfl (Ev.bind hjn (Ev.ct rfl Ev.pure)))))))) Ev.pure,λh=>absurd h dc,λh=>absurd h dc⟩
  | true=>
   rw [hjb] at hjn
   obtain⟨c,h1,h2,h3⟩:=IH o hv hm r u e th
   have pre:∀ {c:Int} {G:Nat->Option Int},Ev G c->Ev (λk=>((eG.f k (eR r u e th 0)).bind λta=>cond (!ta) (some (.inr 1)) ((lI.f k u).bind λtc=>cond (!decide (tc=S.av)) (some (.inr 6)) (cond ((1:Int)==3) ((gG.f k S.fall.aK u).bind λte=>cond ((te.length:Int)==0) (cond ((te.length:Int)==0) (some (.inr 5)) (some (.inl (!ta,!decide (tc=S.av),((te.length:Int)==0))))) (cond ((1:Int) != 3) ((de.f k S.fall.aK r u).bind λtg=>cond (!tg) (some (.inr 5)) (some (.inl (!ta,!decide (tc=S.av),!tg)))) (some (.inl (!ta,!decide (tc=S.av),false))))) (cond ((1:Int) != 3) ((de.f k S.fall.aK r u).bind λtj=>cond (!tj) (some (.inr 5)) (some (.inl (!ta,!decide (tc=S.av),!tj)))) (some (.inl (!ta,!decide (tc=S.av),false))))))).bind (fall λ(pa:Bool×Bool×Bool)=>G k)) c:=λ{c G} h=>
    Ev.bind (a:=(.inl (!true,!decide (oV u=S.av),!true):(Bool×Bool×Bool) ⊕ Int)) (Ev.bind hloc (Ev.cf rfl (Ev.bind hhome (Ev.cf (by rw [dT c1];rfl) (Ev.cf rfl (Ev.ct rfl (Ev.bind hjn (Ev.cf rfl Ev.pure)))))))) h
   by_cases c0:c=0
   ·subst c0
    refine⟨0,pre (Ev.bind (a:=(.inl ():Unit ⊕ Int)) (Ev.ct rfl (Ev.bind h1 (Ev.cf rfl Ev.pure))) ?_),h2,h3⟩
    have e1:dH.f S.aq=some j:=by rw [hs];rfl
    have e2:eH.f S.aq=some 1099511627776:=by rw [hs];rfl
    have e3:j3.f S.fall.bQ=some (1099511627776-S.fall.bQ.dA.fn.fv):=by
     have:=hl.at_
     unfold j3.f dH.f eH.f
     rw [hl.C4]
     show some (aE _)=_
     rw [c7 om om]
    have:=hl.at_
    have n1:(j==(1099511627776:Int))=false:=by rw [beq_eq_false_iff_ne];omega
    have n2:((1099511627776-S.fall.bQ.dA.fn.fv)==(0:Int))=false:=by rw [beq_eq_false_iff_ne];omega
    simp only [fall]
    exact Ev.bind (Ev.of e1) (Ev.bind (Ev.of e2) (Ev.cf n1 (Ev.bind (Ev.of e3) (Ev.cf n2 Ev.pure))))
   ·exact⟨c,pre (Ev.bind (a:=(.inr c:Unit ⊕ Int)) (Ev.ct rfl (Ev.bind h1 (Ev.ct (by simp [c0]) Ev.pure))) Ev.pure),h2,h3⟩
 ·exact⟨6,Ev.bind (a:=(.inr 6:(Bool×Bool×Bool) ⊕ Int)) (Ev.bind hloc (Ev.cf rfl (Ev.bind hhome (Ev.ct (by rw [dF c1];rfl) Ev.pure)))) Ev.pure,λh=>absurd h dc,λh=>absurd h dc⟩
theorem Es {M:List MK} {k:aM} {at_:Pos}:(putM M k at_).length<=M.length+1:=by
 induction M with
 | nil=>exact Nat.le_refl _
 | cons m M ih=>
  unfold putM
  split
  ·split <;> (simp only [List.length_cons];omega)
  ·split <;> (simp only [List.length_cons] at *;omega)
theorem G6 {x:aM} (h:Kx x):∃ s,jP.f x=some s:=by
 have h1:allK.all (λx=>(jP.f x).isSome)=true:=kr
 exact Option.isSome_iff_exists.1 (List.all_eq_true.1 h1 x h.mem)
theorem I1 {v:au} {w:dm} (o:zT v w) {S:bY} {M:List MK} {n:Nat} (hv:S.fall.aK=v) (hm:uj S.fall.aA.j2 M) (hl:LG S.fall.bQ n) (hn:n<=900) {r u e th:BA} {s:Int} (hz:Zz (eR r u e th s)) (hloc:mb (eR r u e th s)=true) (hk:Kx (kR r u th))
  (hf:Ev (λ_=>eK.f v r e th) 0) (ho:Df (gM M (kR r u th)) (mE (kc w r).fL e).1=true):
  ∃ S',Ev (λk=>iF.f k S (eR r u e th s)) (0,S')/\S'.av=S.av/\S'.aG=S.aG/\S'.aq=S.aq/\S'.aa=S.aa/\S'.fall.aK=v/\uj S'.fall.aA.j2 (putM M (kR r u th) (mE (kc w r).fL e).1)/\LG S'.fall.bQ (n+1):=by
 subst hv
 have hl1:=(wk hz).1
 rw [hloc] at hl1
 have hp:=(sH o.rel (Nat.le_trans o.ly dc) r e (o.len r)).1
 obtain⟨t',a,b⟩:=uH hm (kR r u th) (mE (kc w r).fL e).1
 rw [ho] at b
 obtain⟨s0,k1⟩:=G6 hk
 obtain⟨x,d',t1,t2⟩:=CB hl hn s0
 refine⟨⟨S.av,S.aG,S.aq,⟨S.fall.aK,⟨t',S.fall.aA.oG⟩,S.fall.ax,S.fall.an,d'⟩,S.aI,S.aa⟩,?_,rfl,rfl,rfl,rfl,rfl,a,t2⟩
 unfold iF.f
 refine Ev.ct rfl (Ev.bind (a:=(true,0,⟨t',S.fall.aA.oG⟩)) ?_ (Ev.bind (Ev.of rfl) (Ev.bind (Ev.of k1) (Ev.ct rfl (Ev.bind (Ev.bind t1 Ev.pure) Ev.pure)))))
 unfold iI.f
 exact Ev.cf rfl (Ev.bind hl1 (Ev.cf rfl (Ev.bind hf (Ev.cf rfl (Ev.ct rfl (Ev.bind hp (Ev.bind (Ev.of rfl) (Ev.bind b Ev.pure))))))))
theorem AZ {v:au} {w:dm} (o:zT v w) (hU:UN w) (self:BA) {r u e th:BA} {s:Int} (hz:Zz (eR r u e th s)):∃ T,Ev (λk=>lL.f k v self (eR r u e th s)) T/\T.length<=1000/\∀ x∈T,ko x=true/\x.size<=maxLen/\x≠self:=by
 have hr:∃ rs,Ev (λk=>jI.f k v (eR r u e th s)) rs/\rs.length<=1000/\∀ x∈rs,ko x=true/\x.size<=maxLen:=by
  have hmay:=(EZ hz).1
  unfold jI.f
  cases hb:AG (eR r u e th s) with
  | false=>
   rw [hb] at hmay
   exact⟨[],Ev.bind hmay (Ev.ct rfl Ev.pure),Nat.zero_le _,λx hx=>by cases hx⟩
  | true=>
   rw [hb] at hmay
   obtain⟨rs,r1,r2,r3⟩:=De o.rel o.len hU r
   exact⟨rs,Ev.bind hmay (Ev.cf rfl (Ev.cf rfl (Ev.bind r1 Ev.pure))),r2,r3⟩
 obtain⟨rs,r1,r2,r3⟩:=hr
 have hd:=AH (p:=λ_ a=>j6.f a self) (b:=λa=>decide (a=self)) (λx=>Ev.of rfl) (xs:=rs) om
 refine⟨rs.filter λx=>!decide (x=self),?_,Nat.le_trans (List.length_filter_le ..) r2,λx hx=>?_⟩
 ·unfold lL.f
  exact Ev.bind r1 (Ev.bind hd Ev.pure)
 ·rw [List.mem_filter] at hx
  have:=r3 x hx.1
  exact⟨this.1,this.2,by simpa using hx.2⟩
def SN (F:List (BA×aO)) (N:Int):Prop:=∀ to s,mget F to=some s->∃ r,ue s.bC r/\0<=r.bS/\r.bS<=N
theorem AA {F:List (BA×aO)} {N N':Int} (h:SN F N) (hN:N<=N') {to:BA} {s:aO} (hs:∃ r,ue s.bC r/\0<=r.bS/\r.bS<=N'):SN (mput F to s) N':=λto' s' h'=>by
 rw [ir] at h'
 split at h'
 ·cases h';exact hs
 ·obtain⟨r,a,b,c⟩:=h _ _ h'
  exact⟨r,a,b,om⟩
theorem wQ {r:iH} {e:ak} {n:Int} (h:0<=r.bS/\r.bS<=n) (hn:n<=1000000000):0<=(zB r e).1.bS/\(zB r e).1.bS<=n+1:=by
 have hw:aE (r.bS+1)=r.bS+1:=c7 om om
 unfold zB
 split
 ·exact⟨h.1,by show r.bS<=n+1;omega⟩
 ·split
  ·exact⟨h.1,by show r.bS<=n+1;omega⟩
  ·split
   ·show 0<=aE (r.bS+1)/\aE (r.bS+1)<=n+1
    rw [hw];omega
   ·exact⟨h.1,by show r.bS<=n+1;omega⟩
theorem FO {self to:BA} (h1:ko self=true/\self.size<=maxLen) (h2:ko to=true/\to.size<=maxLen) (hne:to≠self):Ev (λk=>nq.f k self to 120 0) (some ⟨⟨120,[],[],0⟩,self,to,⟨⟨0⟩,1099511627776⟩,none⟩,0):=by
 have a:=uF h1.2
 have b:=uF h2.2
 rw [h1.1] at a
 rw [h2.1] at b
 unfold nq.f
 exact Ev.bind a (Ev.cf rfl (Ev.bind b (Ev.cf rfl (Ev.cf (dF (Ne.symm hne)) (Ev.of rfl)))))
theorem CC {T:List BA} (hl:T.length<=1000) {self:BA} (hself:ko self=true/\self.size<=maxLen) (hT:∀ x∈T,ko x=true/\x.size<=maxLen/\x≠self) (tick stamps:bI) (all:Src) (come:Seen) {r u e th:BA} {s:Int} (c:Int) (cc:bI) (he:Sm (eR r u e th s)):
  ∀ n x:Nat,T.length-x=n->x<=T.length->∀ F (N:Int),SN F N->0<=N->N+(n:Int)<=1000000->∃ F',SN F' (N+(n:Int))/\El (λk j=>bF.l0 k (eR r u e th 0) 0 (s,c,cc) T j (x:Int) ⟨self,tick,stamps,all,come,F⟩) ((T.length:Int),(T.length:Int),false,⟨self,tick,stamps,all,come,F'⟩,T):=by
 intro n
 induction n with
 | zero=>
  intro x hn hx F N hF h0 hN
  obtain rfl:x=T.length:=om
  refine⟨F,by simpa using hF,El.step (λ_ _=>by rw [bF.l0]) ?_⟩
  exact El.cf sM (by simpa using El.pure)
 | succ n ih=>
  intro x hn hx F N hF h0 hN
  have hx2:x<T.length:=om
  obtain⟨to,hto,hin⟩:∃ to,T.getD ((x:Int)).toNat default=to/\to∈T:=⟨_,rfl,by
   rw [Int.toNat_natCast,gD,gE hx2];exact List.getElem_mem hx2⟩
  obtain⟨t1,t2,t3⟩:=hT to hin
  have st:∀ {G:Nat->Nat->Option (Int×Int×Bool×bY×List BA)} {y},(∀ k j,bF.l0 k (eR r u e th 0) 0 (s,c,cc) T (j+1) (x:Int) ⟨self,tick,stamps,all,come,F⟩=G k j)->El G y->El (λk j=>bF.l0 k (eR r u e th 0) 0 (s,c,cc) T j (x:Int) ⟨self,tick,stamps,all,come,F⟩) y:=λh1 h2=>El.step h1 h2
  cases hg:mget F to with
  | none=>
   have mp:mget (mput F to (⟨⟨120,[],[],0⟩,self,to,⟨⟨0⟩,1099511627776⟩,none⟩:aO)) to=some ⟨⟨120,[],[],0⟩,self,to,⟨⟨0⟩,1099511627776⟩,none⟩:=by rw [ir,if_pos rfl]
   have rq:=D3 (m:=120) ⟨dc,dc⟩
   obtain⟨q',p1,p2⟩:=w6 rq he ⟨by show(0:Int)<=0;decide,by show(0:Int)<=_;decide⟩
   have p3:=wQ (r:=⟨120,[],0⟩) (e:=eR r u e th s) (n:=N) ⟨by show(0:Int)<=0;decide,h0⟩ om
   have hF1:SN (mput F to (⟨⟨120,[],[],0⟩,self,to,⟨⟨0⟩,1099511627776⟩,none⟩:aO)) N:=AA hF (Int.le_refl _) ⟨_,rq,by show(0:Int)<=0;decide,h0⟩
   have hF2:=AA hF1 (show N<=N+1 by omega) (to:=to) (s:=⟨q',self,to,⟨⟨0⟩,1099511627776⟩,none⟩) ⟨_,p2,p3⟩
   obtain⟨F',k1,k2⟩:=ih (x+1) om om _ (N+1) hF2 om om
   refine⟨F',by
          have e:N+1+(n:Int)=N+((n+1:Nat):Int):=om
          rw [<- e];exact k1,El.step (λ_ _=>by rw [bF.l0]) ?_⟩
   rw [uS (show x<=1000000 by omega),hto]
   refine El.ct (dT om) (El.aF ⟨om,om⟩ (El.ct (by rw [hg];rfl) (El.bind (FO hself ⟨t1,t2⟩ t3).el (El.aF rfl (El.aF ?_ ?_)))))
   ·show(mget (mput F to (⟨⟨120,[],[],0⟩,self,to,⟨⟨0⟩,1099511627776⟩,none⟩:aO)) to).isSome=true
    rw [mp];rfl
   ·simp only [Option.getD_some,mp]
    exact El.bind p1.el k2
  | some sd=>
   obtain⟨rq,q1,q2,q3⟩:=hF _ _ hg
   obtain⟨q',p1,p2⟩:=w6 q1 he ⟨q2,om⟩
   have p3:=wQ (r:=rq) (e:=eR r u e th s) (n:=N) ⟨q2,q3⟩ om
   have hF2:=AA hF (show N<=N+1 by omega) (to:=to) (s:=⟨q',sd.av,sd.lf,sd.fX,sd.fair⟩) ⟨_,p2,p3⟩
   obtain⟨F',k1,k2⟩:=ih (x+1) om om _ (N+1) hF2 om om
   refine⟨F',by
          have e:N+1+(n:Int)=N+((n+1:Nat):Int):=om
          rw [<- e];exact k1,El.step (λ_ _=>by rw [bF.l0]) ?_⟩
   rw [uS (show x<=1000000 by omega),hto]
   simp only [hg]
   exact El.ct (dT om) (El.aF ⟨om,om⟩ (El.cf rfl (El.aF rfl (El.bind p1.el k2))))
structure RS (v:au) (S:bY) (M:List MK) (n:Nat):Prop where
 self:S.av=⟨#[115,49]⟩
 tick:S.aG=⟨⟨0⟩,1099511627776⟩
 stamps:∃ j:Int,0<=j/\j<=(n:Int)/\S.aq=⟨⟨j⟩,1099511627776⟩
 view:S.fall.aK=v
 rel:uj S.fall.aA.j2 M
 log:LG S.fall.bQ n
 sn:SN S.aa (1000*(n:Int))
 len:M.length<=n
 pub:∀ m∈M,m.fK.ay=false
 idn:∀ k q,gM M k=some q->q.cC≠⟨#[]⟩
theorem I6 (v:au):RS v (S0 v) [] 0:=⟨rfl,rfl,⟨0,dc,dc,rfl⟩,rfl,vN,IJ,λ_ _ h=>(by cases h),Nat.zero_le _,λm h=>(by cases h),λ_ _ h=>(by cases h)⟩
theorem Bu {o:Option Pos} {p:Pos} (h:Df o p=true):newA o p=p:=by
 cases o with
 | none=>rfl
 | some q=>exact if_pos h
theorem sm_of {r u e th:BA} {s:Int} (ge:GE (eR r u e th 0)) (hs:0<=s/\s<=1000):Sm (eR r u e th s):=by
 have hr:r.size=5:=(ux (ge.room (show(1:Int)≠3 by decide))).2
 have hu:u.size=5:=(uL ge.user).2
 have he:e.size<128:=by
  obtain⟨j,_,ej⟩:=ge.event rfl
  have ej:e=mZ j:=ej
  rw [ej];show(3:Nat)<128;decide
 have ht:th.size<128:=by
  rcases ge.nL rfl with ej | ej | ⟨j,_,ej⟩
  ·have ej:th=_:=ej;rw [ej];decide
  ·have ej:th=_:=ej;rw [ej];decide
  ·have ej:th=mZ j:=ej;rw [ej];show(3:Nat)<128;decide
 exact⟨by show(0:Int)<=1/\(1:Int)<128;decide,by show r.size<128;omega,by show u.size<128;omega,he,ht,by show(0:Int)<=0/\(0:Int)<128;decide,by show(0:Int)<=0/\(0:Int)<128;decide,by show(0:Int)<=0/\(0:Int)<=_;decide,by show 0<=s/\s<=_;omega⟩
theorem GY {v:au} {w:dm} (o:zT v w) (hU:UN w) {S:bY} {M:List MK} {n:Nat} (h:RS v S M n) (hn:n<=100) {r u e th:BA} (ge:GE (eR r u e th 0)):
  ∃ c S' M',Ev (λk=>fq.f k S u r e th false) (c,S')/\RS v S' M' (n+1)/\(c=0->gM M' (kR r u th)=some (mE (kc w r).fL e).1/\(mE (kc w r).fL e).2=true/\∀ q,gM M (kR r u th)=some q->ltOf jy q (mE (kc w r).fL e).1=true)/\(c≠0->M'=M)/\(c=8->∃ q,gM M (kR r u th)=some q/\ltOf jy q (mE (kc w r).fL e).1=false):=by
 obtain⟨j,j0,j1,hj⟩:=h.stamps
 obtain⟨c,r1,r2,r3⟩:=z7 o h.view h.rel hj ⟨j0,om⟩ h.log om ge
 unfold fq.f bF.f
 by_cases c0:c=0
 ·subst c0
  obtain⟨f1,f2,f3⟩:=r2 rfl
  have hs:0<=j+1/\j+1<=1000:=om
  have z:Zz (eR r u e th (j+1)):=⟨ge.zz.room,ge.zz.user,ge.zz.event,ge.zz.nL⟩
  have kx:Kx (kR r u th):=kx_of ge rfl
  have tk:gY.f S=some 0:=by unfold gY.f;rw [h.tick];rfl
  have nx:Ev (λk=>dy.f k S.aq) (j+1,0,⟨⟨j+1⟩,1099511627776⟩):=by
   have:=A8 (a:=j) ⟨j0,om⟩
   rw [if_neg om,<- hj] at this;exact this
  obtain⟨S1,p0,p1,p2,p3,p4,p5,p6,p7⟩:=I1 o (S:=⟨S.av,S.aG,⟨⟨j+1⟩,1099511627776⟩,S.fall,S.aI,S.aa⟩) h.view h.rel h.log om z (DQ ge.local hs) kx f1 f3
  obtain⟨T,t1,t2,t3⟩:=AZ o hU S1.av z
  have p1':S1.av=⟨#[115,49]⟩:=p1.trans h.self
  have hsn:SN S1.aa (1000*(n:Int)):=by rw [p4];exact h.sn
  obtain⟨F',s1,s2⟩:=CC t2 (self:=S1.av) (by rw [p1'];exact⟨by decide +kernel,by show(2:Nat)<=9223372036854775807;decide⟩) t3 S1.aG S1.aq S1.fall S1.aI 0 ⟨⟨j+1⟩,1099511627776⟩ (sm_of ge hs) _ 0 rfl (Nat.zero_le _) S1.aa _ hsn om om
  refine⟨0,⟨S1.av,S1.aG,S1.aq,S1.fall,S1.aI,F'⟩,putM M (kR r u th) (mE (kc w r).fL e).1,?_,⟨p1',p2.trans h.tick,⟨j+1,hs.1,om,p3⟩,p5,p6,p7,?_,?_,?_,?_⟩,λ_=>⟨?_,?_,?_⟩,λh=>absurd rfl h,λh=>absurd h dc⟩
  ·rw [<- p5] at t1
   exact Ev.bind (Ev.bind r1 (Ev.cf rfl (Ev.bind (Ev.of tk) (Ev.bind nx (Ev.bind p0 (Ev.bind (Ev.bind t1 s2.diag) Ev.pure)))))) Ev.pure
  ·intro to s hs
   obtain⟨rq,a,b,c⟩:=s1 to s hs
   exact⟨rq,a,b,om⟩
  ·have:=Es (M:=M) (k:=kR r u th) (at_:=(mE (kc w r).fL e).1)
   have:=h.len
   omega
  ·intro m hm
   rcases yO m hm with h1 | h1
   ·rw [h1]
   ·exact h.pub m h1
  ·intro k q hq
   rw [AD h.rel.IA] at hq
   split at hq
   ·rw [Bu f3] at hq
    cases hq
    unfold mE
    rw [if_neg om]
    obtain⟨j,_,ej⟩:=ge.event rfl
    have ej:e=mZ j:=ej
    show e≠_
    rw [ej];exact B3 j
   ·exact h.idn k q hq
  ·rw [AD h.rel.IA,if_pos rfl,Bu f3]
  ·unfold mE;rw [if_neg om]
  ·intro q hq
   rw [hq] at f3;exact f3
 ·exact⟨c,S,M,Ev.bind (Ev.bind r1 (Ev.ct (by simp [c0]) Ev.pure)) Ev.pure,⟨h.self,h.tick,⟨j,j0,om,hj⟩,h.view,h.rel,⟨⟨h.log.at_.1,by have:=h.log.at_.2;omega⟩,h.log.C4,Nat.le_succ_of_le h.log.len,h.log.has⟩,λto s hs=>by
   obtain⟨rq,a,b,c⟩:=h.sn to s hs
   exact⟨rq,a,b,om⟩,Nat.le_succ_of_le h.len,h.pub,h.idn⟩,λh=>absurd h c0,λ_=>rfl,r3⟩
theorem user_ev {g:cV} (h:Hk g.fU):∃ u,o9.f g ⟨#[115,49]⟩=some u/\u∈oI:=by
 unfold o9.f
 by_cases c:g.fU.tmod 4=3
 ·obtain⟨u,a,b⟩:=w4 h
  refine⟨u,?_,b⟩
  rw [c,a];rfl
 ·obtain⟨m,h1,h2,h3⟩:=mq (m:=3) h dc dc
  have hc:(g.fU.tmod 4==3)=false:=by rw [beq_eq_false_iff_ne];exact c
  rw [hc,h1]
  obtain⟨k,hk,rfl⟩:=int_lt (n:=3) h2 h3
  have h4:(List.range 3).all (λk=>match (cond false (none:Option BA) ((some ((k:Nat):Int)).bind λta=>aF ((0:Int)<=ta/\ta<(([(⟨#[64,97,58]⟩:BA),(⟨#[64,98,58]⟩:BA),(⟨#[64,99,58]⟩:BA)]:List BA).length:Int)) (aF ((az.at ([(⟨#[64,97,58]⟩:BA),(⟨#[64,98,58]⟩:BA),(⟨#[64,99,58]⟩:BA)]:List BA) ta).size+(⟨#[115,49]⟩:BA).size<=9223372036854775807) (some ((az.at ([(⟨#[64,97,58]⟩:BA),(⟨#[64,98,58]⟩:BA),(⟨#[64,99,58]⟩:BA)]:List BA) ta)++(⟨#[115,49]⟩:BA)))))) with
   | some u=>oI.any λy=>decide (y=u)
   | none=>false)=true:=by decide +kernel
  have h5:=List.all_eq_true.1 h4 k (List.mem_range.2 hk)
  split at h5
  ·rename_i u hu
   obtain⟨y,hy,e⟩:=List.any_eq_true.1 h5
   refine⟨u,hu,?_⟩
   rw [<- of_decide_eq_true e];exact hy
  ·cases h5
theorem Di {v:au} {w:dm} (o:zT v w) (hU:UN w) {l:List cV} (hl:l.length<=maxLen) (hok:∀ g∈l,cV.ok g) (E:List Event) (N:Int):∀ n x:Nat,10-x=n->x<=10->x<=l.length->∀ S M,RS v S M x->
  ∃ p,El (λk j=>aN.l0 k l j (x:Int) ⟨S,R0 w,E,N⟩) (.inl p):=by
 have hl2:l.length<=9223372036854775807:=hl
 intro n
 induction n with
 | zero=>
  intro x hn hx hxl S M h
  obtain rfl:x=10:=om
  by_cases c:10<l.length
  ·refine⟨(10,false,⟨S,R0 w,E,N⟩),El.step (λ_ _=>by rw [aN.l0]) ?_⟩
   exact El.ct (dT om) (El.cf rfl El.pure)
  ·refine⟨(10,false,⟨S,R0 w,E,N⟩),El.step (λ_ _=>by rw [aN.l0]) ?_⟩
   exact El.cf (dF om) El.pure
 | succ n ih=>
  intro x hn hx hxl S M h
  by_cases c:x<l.length
  ·have hat:cV.K.at l (x:Int)=l[x]:=by
    rw [BJ l x default c,gD,gE c];rfl
   obtain⟨g,hg⟩:∃ g,l[x]=g:=⟨_,rfl⟩
   obtain⟨_,cU,cR,cE,cT,_⟩:=hok _ (List.getElem_mem c)
   rw [hg] at hat cU cR cE cT
   obtain⟨r,r1,r2⟩:=Cd (qD cR)
   obtain⟨u,u1,u2⟩:=user_ev (qD cU)
   obtain⟨th,t1,t2⟩:=zD (qD cT)
   obtain⟨i,i1,e1⟩:=vY (qD cE)
   have ge:GE (eR r u (mZ i) th 0):=⟨.inl rfl,u2,λ_=>r2,λh=>absurd h (show ¬ (1:Int)=3 by decide),λ_=>⟨i,i1,rfl⟩,λh=>absurd rfl h,λ_=>t2,λh=>absurd rfl h,λ_=>rfl,λ_=>rfl,λ_=>rfl,λh=>absurd h (show ¬ false=true by decide),λ_=>rfl,by show(0:Int)<=0/\(0:Int)<=2;decide,by show(0:Int)<=0/\(0:Int)<100;decide,by show(0:Int)<=0/\(0:Int)<9;decide⟩
   obtain⟨cd,S',M',a1,a2,a3,a4,a5⟩:=GY o hU h om ge
   obtain⟨L1,m1,m2⟩:=zv h.rel (by have:=h.len;omega) h.pub
   obtain⟨L2,m3,m4⟩:=zv a2.rel (by have:=a2.len;omega) a2.pub
   have hpos:=(sH o.rel (Nat.le_trans o.ly dc) r (mZ i) (o.len r)).2
   obtain⟨pp,hp⟩:=ih (x+1) om om om S' M' a2
   refine⟨pp,El.step (λ_ _=>by rw [aN.l0]) ?_⟩
   rw [uS (show x<=1000000 by omega),hat]
   refine El.ct (dT om) (El.ct (dT om) (El.aF ⟨om,om⟩ (El.bind (Ev.of r1).el (El.bind (Ev.of u1).el (El.bind t1.el (El.bind (Ev.bind m1 Ev.pure).el (El.bind (m2 _).el (El.bind e1.el (El.bind a1.el (El.bind (Ev.bind m3 Ev.pure).el (El.bind (m4 _).el (El.bind e1.el (El.bind hpos.el ?_)))))))))))))
   dsimp only
   generalize (mE (kc w r).fL (mZ i))=P at *
   by_cases c0:cd=0
   ·subst c0
    obtain⟨b1,b2,b3⟩:=a3 rfl
    rw [b1,b2]
    have hbef:∀ {G:Nat->Nat->Option ((Int×Bool×WS) ⊕ Bool)} {q},El G q->El (λk j=>cond (!decide (((gM M (kR r u th)).getD ⟨0,⟨#[]⟩⟩).cC=eE)) ((bD.f ((gM M (kR r u th)).getD ⟨0,⟨#[]⟩⟩) P.1).bind λt=>cond (!t) (some (.inr false)) (G k j)) (G k j)) q:=λ{G q} hG=>by
     cases hgm:gM M (kR r u th) with
     | none=>exact El.cf rfl hG
     | some q'=>
      refine El.ct ?_ (El.bind (Ev.of (wJ q' P.1)).el (El.cf ?_ hG))
      ·show(!decide (q'.cC=eE))=true
       rw [dF (h.idn _ _ hgm)];rfl
      ·rw [b3 q' hgm];rfl
    refine El.ct rfl (El.cf sM (El.cf rfl (hbef (El.cf rfl (El.cf rfl hp)))))
   ·rw [a4 c0]
    have n0:(cd==0)=false:=by rw [beq_eq_false_iff_ne];exact c0
    have n1:(cd != 0)=true:=by simp [c0]
    refine El.cf n0 (El.ct n1 (El.cf sM ?_))
    by_cases c8:cd=8
    ·obtain⟨q,q1,q2⟩:=a5 c8
     rw [q1]
     refine El.ct (by simp [c8]) (El.cf (dF (h.idn _ _ q1)) (El.bind (Ev.of (wJ q P.1)).el (El.cf q2 hp)))
    ·exact El.cf (by simp [c8]) hp
  ·refine⟨((x:Int),false,⟨S,R0 w,E,N⟩),El.step (λ_ _=>by rw [aN.l0]) ?_⟩
   exact El.cf (dF om) El.pure
theorem I2 (k:Nat):ow.f (k+60)=some true:=kr
theorem DF:Ev (λk=>ow.f k) true:=⟨60,λk hk=>by
 obtain⟨j,rfl⟩:∃ j,k=j+60:=⟨k-60,om⟩
 exact I2 j⟩
theorem mayK (k:Nat):oP.f (k+60) (⟨3,eE,(⟨#[64,97,58,115,49]⟩:BA),eE,eE,false,false,0,0,0,0⟩:ak)=some true:=kr
theorem sY (a0:List dV) (a1:List dV) (a2:List cV) (k0:a0.length<=maxLen/\∀ x∈a0,dV.ok x) (k1:a1.length<=maxLen/\∀ x∈a1,dV.ok x) (k2:a2.length<=maxLen/\∀ x∈a2,cV.ok x):∃ k,aN.f k a0 a1 a2=some true:=by
 suffices h:Ev (λk=>aN.f k a0 a1 a2) true from h.ex
 obtain⟨L,v,w,m1,m2,m3,m4⟩:=Hh k0 k1
 have hm:Ev (λk=>oP.f k (⟨3,eE,(⟨#[64,97,58,115,49]⟩:BA),eE,eE,false,false,0,0,0,0⟩:ak)) true:=Ev.add 60 λm=>mayK m
 obtain⟨p,hp⟩:=Di m3.ok2 m4 k2.1 k2.2 L (L.length:Int) _ 0 rfl om (Nat.zero_le _) _ _ (I6 v)
 have he:=CW m2 (v':=v) (w':=w) _ 0 rfl om ⟨[]⟩ ⟨[]⟩ m3
 rw [Nat.zero_min] at he
 unfold aN.f
 exact Ev.bind (DW m1) (Ev.cf rfl (Ev.bind he.diag (Ev.bind hp.diag (Ev.bind hm (Ev.ct rfl (Ev.bind DF Ev.pure))))))
end Go.Proofs.YtelcbdmigiacpaaGreat
