import Derived.Test.YtfknmdelgepbjaaGreatDoorVZYJ
set_option linter.all false
set_option maxRecDepth 10000
namespace Go.Proofs.YtfknmdelgepbjaaGreatDoor
open Go Go.Sp
theorem oI {α:Type} {K:Kd α} {l:List α} {m:Nat} (h:m<l.length):K.at l (m:Int)=l[m]:=by
 unfold Kd.at; rw [Int.toNat_natCast]; simp [h]
theorem um {α:Type} [DecidableEq α] {a b:List α} {F:Nat→Nat→Int→Option ((Int×Bool) ⊕ Bool)} (hl:a.length=b.length)
  (h1:∀ x (ha:x<a.length) (hb:x<b.length),a[x]=b[x]→∀ r,El (fun k j=>F k j ((x+1:Nat):Int)) r→El (fun k j=>F k j (x:Int)) r)
  (h2:∀ x (ha:x<a.length) (hb:x<b.length),a[x]≠b[x]→El (fun k j=>F k j (x:Int)) (.inr false))
  (h3:El (fun k j=>F k j (a.length:Int)) (.inl ((a.length:Int),false))):El (fun k j=>F k j 0) (if a=b then .inl ((a.length:Int),false) else .inr false):=by
 have:∀ n x:Nat,a.length-x=n→x≤a.length→El (fun k j=>F k j (x:Int)) (if a.drop x=b.drop x then .inl ((a.length:Int),false) else .inr false):=by
  intro n
  induction n with
  | zero=>
   intro x hd hx
   obtain rfl:x=a.length:=om
   rw [if_pos (by rw [List.drop_length,hl,List.drop_length])]; exact h3
  | succ n ih=>
   intro x hd hx
   have ha:x<a.length:=om
   have hb:x<b.length:=om
   have i:=ih (x+1) om om
   rw [List.drop_eq_getElem_cons ha,List.drop_eq_getElem_cons hb]
   by_cases e:a[x]=b[x]
   ·refine h1 x ha hb e _ ?_
    rw [e]
    by_cases k:a.drop (x+1)=b.drop (x+1)
    ·rw [if_pos k] at i; rw [if_pos (by rw [k])]; exact i
    ·rw [if_neg k] at i; rw [if_neg (fun h=>k (List.cons.inj h).2)]; exact i
   ·rw [if_neg (fun h=>e (List.cons.inj h).1)]; exact h2 x ha hb e
 exact this _ 0 rfl om
theorem zF {p:Prop} [Decidable p] {n:Int} {F:Nat→Option ((Int×Bool) ⊕ Bool)} (h:Ev F (if p then .inl (n,false) else .inr false)):Ev (fun k=>(F k).bind (fall fun _=>some true)) (decide p):=by
 by_cases e:p
 ·rw [if_pos e] at h; rw [dT e]; exact Ev.bind h (by simp only [fall]; exact Ev.pure)
 ·rw [if_neg e] at h; rw [dF e]; exact Ev.bind h (by simp only [fall]; exact Ev.pure)
theorem zC {α:Type} {a b:List α} (h:¬ a.length=b.length):a≠b∧((a.length:Int) != (b.length:Int))=true:=⟨fun e=>h (by rw [e]),by simpa using fun e=>h om⟩
theorem zm {α:Type} {a b:List α} (h:a.length=b.length):((a.length:Int) != (b.length:Int))=false:=by rw [h]; simp
theorem uZ (a b:List BA) (ha:a.length≤1000):Ev (fun k=>cH.f k a b) (decide (a=b)):=by
 unfold cH.f
 by_cases hl:a.length=b.length
 ·refine Ev.cf (zm hl) (zF (um (F:=fun k j x=>cH.l0 k a b j x) hl (fun x xa xb e r hr=>?_) (fun x xa xb e=>?_) ?_).diag)
  ·refine El.step (fun _ _=>by rw [cH.l0]) ?_
   refine El.ct (dT om) (El.an ⟨om,om⟩ (El.an ⟨om,om⟩ (El.cf (by rw [oI xa,oI xb,dT e]; rfl) ?_)))
   rwa [jJ om]
  ·refine El.step (fun _ _=>by rw [cH.l0]) ?_
   exact El.ct (dT om) (El.an ⟨om,om⟩ (El.an ⟨om,om⟩ (El.ct (by rw [oI xa,oI xb,dF e]; rfl) El.pure)))
  ·refine El.step (fun _ _=>by rw [cH.l0]) ?_
   rw [dF om]; exact El.pure
 ·obtain ⟨l1,l2⟩:=zC hl
  rw [dF l1]; exact Ev.ct l2 Ev.pure
theorem Ix (a b:List MK) (ha:a.length≤1000):Ev (fun k=>ij.f k a b) (decide (a=b)):=by
 unfold ij.f
 by_cases hl:a.length=b.length
 ·refine Ev.cf (zm hl) (zF (um (F:=fun k j x=>ij.l0 k a b j x) hl (fun x xa xb e r hr=>?_) (fun x xa xb e=>?_) ?_).diag)
  ·refine El.step (fun _ _=>by rw [ij.l0]) ?_
   refine El.ct (dT om) (El.an ⟨om,om⟩ (El.an ⟨om,om⟩ (El.cf (by rw [oI xa,oI xb]; show (!decide (a[x]=b[x]))=_; rw [dT e]; rfl) ?_)))
   rwa [jJ om]
  ·refine El.step (fun _ _=>by rw [ij.l0]) ?_
   exact El.ct (dT om) (El.an ⟨om,om⟩ (El.an ⟨om,om⟩ (El.ct (by rw [oI xa,oI xb]; show (!decide (a[x]=b[x]))=_; rw [dF e]; rfl) El.pure)))
  ·refine El.step (fun _ _=>by rw [ij.l0]) ?_
   rw [dF om]; exact El.pure
 ·obtain ⟨l1,l2⟩:=zC hl
  rw [dF l1]; exact Ev.ct l2 Ev.pure
structure Sm3 (T:List fE) (P:List fm):Prop where
 t:T.length≤1000
 u:∀ x∈T,x.nI.length≤1000
 p:P.length≤1000
theorem Al (a b:mf) (hm:a.aJ.length≤1000) (h:Sm3 a.az a.cJ):Ev (fun k=>dC.f k a b) (decide (a.aJ=b.aJ∧a.az=b.az∧a.cJ=b.cJ)):=by
 have ht:=h.t
 have hp:=h.p
 unfold dC.f
 have h1:=Ix a.aJ b.aJ hm
 by_cases e1:a.aJ=b.aJ
 ·rw [dT e1] at h1
  refine Ev.bind h1 (Ev.cf rfl ?_)
  by_cases l1:a.az.length=b.az.length
  ·refine Ev.cf (zm l1) ?_
   by_cases l2:a.cJ.length=b.cJ.length
   ·refine Ev.cf (zm l2) ?_
    have t1:=(um (F:=fun k j x=>dC.l1 k a b j x) l1 (fun x xa xb e r hr=>by
      have g:=uZ (a.az[x]).nI (b.az[x]).nI (h.u _ (List.getElem_mem xa))
      rw [dT (by rw [e])] at g
      refine El.step (fun _ _=>by rw [dC.l1]) ?_
      rw [oI xa,oI xb]
      refine El.ct (dT om) (El.an ⟨om,om⟩ (El.an ⟨om,om⟩ (El.bind g.el (El.cf rfl (El.an ⟨om,om⟩ (El.an ⟨om,om⟩ (El.cf (by rw [e]; simp) ?_)))))))
      rwa [jJ om]) (fun x xa xb e=>by
      have g:=uZ (a.az[x]).nI (b.az[x]).nI (h.u _ (List.getElem_mem xa))
      refine El.step (fun _ _=>by rw [dC.l1]) ?_
      rw [oI xa,oI xb]
      refine El.ct (dT om) (El.an ⟨om,om⟩ (El.an ⟨om,om⟩ (El.bind g.el ?_)))
      by_cases eu:(a.az[x]).nI=(b.az[x]).nI
      ·have er:(a.az[x]).ab≠(b.az[x]).ab:=fun er=>e (by
        cases ha:a.az[x]; cases hb:b.az[x]; rw [ha,hb] at eu er; simp_all)
       exact El.cf (by rw [dT eu]; rfl) (El.an ⟨om,om⟩ (El.an ⟨om,om⟩ (El.ct (by rw [dF er]; rfl) El.pure)))
      ·exact El.ct (by rw [dF eu]; rfl) El.pure) (by
      refine El.step (fun _ _=>by rw [dC.l1]) ?_
      rw [dF om]; exact El.pure)).diag
    have t0:=zF (um (F:=fun k j x=>dC.l0 k a b j x) l2 (fun x xa xb e r hr=>by
      refine El.step (fun _ _=>by rw [dC.l0]) ?_
      refine El.ct (dT om) (El.an ⟨om,om⟩ (El.an ⟨om,om⟩ (El.cf (by rw [oI xa,oI xb,dT e]; rfl) ?_)))
      rwa [jJ om]) (fun x xa xb e=>by
      refine El.step (fun _ _=>by rw [dC.l0]) ?_
      exact El.ct (dT om) (El.an ⟨om,om⟩ (El.an ⟨om,om⟩ (El.ct (by rw [oI xa,oI xb,dF e]; rfl) El.pure)))) (by
      refine El.step (fun _ _=>by rw [dC.l0]) ?_
      rw [dF om]; exact El.pure)).diag
    by_cases e2:a.az=b.az
    ·rw [if_pos e2] at t1
     rw [show decide (a.aJ=b.aJ∧a.az=b.az∧a.cJ=b.cJ)=decide (a.cJ=b.cJ) by simp [e1,e2]]
     refine Ev.bind t1 ?_
     exact t0
    ·rw [if_neg e2] at t1
     rw [dF fun h=>e2 h.2.1]
     exact Ev.bind t1 (by simp only [fall]; exact Ev.pure)
   ·obtain ⟨q1,q2⟩:=zC l2
    rw [dF fun h=>q1 h.2.2]; exact Ev.ct q2 Ev.pure
  ·obtain ⟨q1,q2⟩:=zC l1
   rw [dF fun h=>q1 h.2.1]; exact Ev.ct q2 Ev.pure
 ·rw [dF e1] at h1
  rw [dF fun h=>e1 h.1]
  exact Ev.bind h1 (Ev.ct rfl Ev.pure)
def toK (m:jg):MK:=⟨m.dw,m.hM⟩
theorem JQ (r:wx) (hm:r.aJ.length≤1000) (ht:r.az.length≤1000) (hp:r.cJ.length≤1000):Ev (fun k=>eJ.f k r) ⟨r.ig,r.aJ.map toK,r.az,r.cJ⟩:=by
 have l2:∀ n x:Nat,r.aJ.length-x=n→x≤r.aJ.length→El (fun k j=>eJ.l2 k r j (x:Int) ((r.aJ.take x).map toK)) ((r.aJ.length:Int),false,r.aJ.map toK):=by
  intro n
  induction n with
  | zero=>
   intro x hd hx
   obtain rfl:x=r.aJ.length:=om
   refine El.step (fun _ _=>by rw [eJ.l2]) ?_
   rw [dF om,List.take_length]; exact El.pure
  | succ n ih=>
   intro x hd hx
   have hx2:x<r.aJ.length:=om
   have i:=ih (x+1) om om
   rw [List.take_succ_eq_append_getElem hx2,List.map_append] at i
   refine El.step (fun _ _=>by rw [eJ.l2]) ?_
   rw [oI hx2,jJ om]
   refine El.ct (dT om) (El.an ⟨om,om⟩ (El.an ⟨om,om⟩ (El.an ?_ i)))
   rw [List.length_map,List.length_take,List.length_singleton]; omega
 have l1:∀ n x:Nat,r.az.length-x=n→x≤r.az.length→El (fun k j=>eJ.l1 k r j (x:Int) (r.az.take x)) ((r.az.length:Int),false,r.az):=by
  intro n
  induction n with
  | zero=>
   intro x hd hx
   obtain rfl:x=r.az.length:=om
   refine El.step (fun _ _=>by rw [eJ.l1]) ?_
   rw [dF om,List.take_length]; exact El.pure
  | succ n ih=>
   intro x hd hx
   have hx2:x<r.az.length:=om
   have i:=ih (x+1) om om
   rw [List.take_succ_eq_append_getElem hx2] at i
   refine El.step (fun _ _=>by rw [eJ.l1]) ?_
   rw [oI hx2,jJ om]
   refine El.ct (dT om) (El.an ⟨om,om⟩ (El.an ?_ i))
   rw [List.length_take,List.length_singleton]; omega
 have l0:∀ n x:Nat,r.cJ.length-x=n→x≤r.cJ.length→El (fun k j=>eJ.l0 k r j (x:Int) (r.cJ.take x)) ((r.cJ.length:Int),false,r.cJ):=by
  intro n
  induction n with
  | zero=>
   intro x hd hx
   obtain rfl:x=r.cJ.length:=om
   refine El.step (fun _ _=>by rw [eJ.l0]) ?_
   rw [dF om,List.take_length]; exact El.pure
  | succ n ih=>
   intro x hd hx
   have hx2:x<r.cJ.length:=om
   have i:=ih (x+1) om om
   rw [List.take_succ_eq_append_getElem hx2] at i
   refine El.step (fun _ _=>by rw [eJ.l0]) ?_
   rw [oI hx2,jJ om]
   refine El.ct (dT om) (El.an ⟨om,om⟩ (El.an ?_ i))
   rw [List.length_take,List.length_singleton]; omega
 unfold eJ.f
 exact Ev.bind (l2 _ 0 rfl om).diag (Ev.bind (l1 _ 0 rfl om).diag (Ev.bind (l0 _ 0 rfl om).diag Ev.pure))
theorem La (P:List Event) (c:Event) (C:List Event):Event.K.at (P++c::C) (P.length:Int)=c:=by
 unfold Kd.at; rw [Int.toNat_natCast]; simp [List.getElem?_append_right]
theorem Bi {L:List Event} (hl:L.length≤1000) {t1:(Option j7)×Int} {t2:(Option cC)×Int} {t3:bX} {t4:cD} {v w C v' w'} (h:p9 v w C v' w'):∀ A,L=A++C→
  El (fun k j=>gF.l0 k L t1 t2 t3 t4 j (A.length:Int) v) (.inl ((L.length:Int),false,v'))∧El (fun k j=>gX.l0 k L j (A.length:Int) w.fD) ((L.length:Int),false,w'.fD):=by
 induction h with
 | nil _=>
  intro A e
  rw [List.append_nil] at e
  constructor
  ·refine El.step (fun _ _=>by rw [gF.l0]) ?_
   rw [dF (by rw [e]; omega),e]; exact El.pure
  ·refine El.step (fun _ _=>by rw [gX.l0]) ?_
   rw [dF (by rw [e]; omega),e]; exact El.pure
 | @cons v w c v1 w1 C v' w' _ a b _ ih=>
  intro A e
  have hlt:A.length<L.length:=by rw [e]; simp
  have hat:Event.K.at L (A.length:Int)=c:=by rw [e]; exact La _ _ _
  obtain ⟨i1,i2⟩:=ih (A++[c]) (by rw [e]; simp)
  have hw:av ((A.length:Int)+1)=(((A++[c]).length:Nat):Int):=by rw [aG om om,List.length_append]; rfl
  constructor
  ·refine El.step (fun _ _=>by rw [gF.l0]) ?_
   rw [hat,hw]
   exact El.ct (dT om) (El.an ⟨om,om⟩ (El.bind a.el (El.cf rfl i1)))
  ·refine El.step (fun _ _=>by rw [gX.l0]) ?_
   rw [hat,hw]
   exact El.ct (dT om) (El.an ⟨om,om⟩ (El.bind b.el i2))
def src0 (v:aN) (from_:Int):Src:=⟨v,⟨⟨[]⟩,⟨8,[],0⟩⟩,⟨[],⟨[],[]⟩⟩,⟨[],⟨[],[]⟩⟩,⟨⟨⟨from_⟩,from_+1000⟩,[],[]⟩⟩
def ref0 (wv:bA) (from_:Int):dU:=⟨wv,[],⟨[],[]⟩,⟨[],[]⟩,[],from_⟩
theorem Gl {L v wv} (R:p9 ⟨[]⟩ ⟨[]⟩ L v wv) (hl:L.length≤18) {from_:Int} (hf:0≤from_∧from_≤1000):Ev (fun k=>gF.f k L from_) (src0 v from_,ref0 wv from_,true):=by
 have h1:oD.f 8=some (some ⟨⟨[]⟩,⟨8,[],0⟩⟩,0):=rfl
 have hw:av (from_+1000)=from_+1000:=aG om om
 have h2:nC.f from_ (from_+1000)=some (some ⟨⟨⟨from_⟩,from_+1000⟩,[],[]⟩,0):=by
  unfold nC.f oP.f
  rw [dF (by omega:¬ from_+1000<1),dF (by omega:¬ 1099511627776<from_+1000),dF (by omega:¬ from_<0),dF (by omega:¬ from_+1000<from_)]
  rfl
 obtain ⟨s1,s2⟩:=Bi (L:=L) om (t1:=(some ⟨⟨[]⟩,⟨8,[],0⟩⟩,0)) (t2:=(some ⟨⟨⟨from_⟩,from_+1000⟩,[],[]⟩,0)) (t3:=⟨[],⟨[],[]⟩⟩) (t4:=⟨[],⟨[],[]⟩⟩) R [] rfl
 unfold gF.f
 rw [hw]
 refine Ev.bind (Ev.of h1) (Ev.bind (Ev.of h2) (Ev.bind (Ev.of rfl) (Ev.bind (Ev.of Ty.B4) (Ev.bind (Ev.of Pr.B4) (Ev.an rfl (Ev.an rfl (Ev.cf rfl (Ev.cf rfl (Ev.bind s1.diag ?_)))))))))
 simp only [fall]
 refine Ev.bind ?_ Ev.pure
 unfold gX.f
 exact Ev.bind s2.diag Ev.pure
theorem K5 {L v wv} (R:p9 ⟨[]⟩ ⟨[]⟩ L v wv) {from_:Int} (hf:0≤from_∧from_≤1000):Bs v wv ⟨[],⟨[],[]⟩⟩ [] ⟨[],⟨[],[]⟩⟩ [] 0∧St v wv ⟨[],⟨[],[]⟩⟩ [] ⟨[],⟨[],[]⟩⟩ [] (src0 v from_) (ref0 wv from_) []:=
 ⟨⟨R.ok2,Ty.rS,Pr.rS⟩,⟨rfl,rfl,rfl,rfl,rfl,rfl,⟨Hh,rfl,Nat.zero_le _⟩,Nat.le_refl _,fun m hm=>(by cases hm),ER ⟨hf.1,om⟩,rfl⟩⟩
theorem EV:Ev (fun _=>oN.f) true:=Ev.of kr
theorem Hv (M:List MK):(M.map KZ).map toK=M:=by rw [List.map_map]; exact List.map_id'' (fun _=>rfl) M
section
variable {v:aN} {wv:bA} {t:bX} {T:List (ak×Bool)} {p:cD} {P:List (ak×Int)} {n:Nat}
 {s:Src} {w:dU} {Z:List Cx} (B:Bs v wv t T p P n) (hn:n≤1000) (H:St v wv t T p P s w Z) (hz:Z.length≤100)
include B hn H hz
theorem C8 (at_:Int):∃ (U:BA→List BA) (S:BA→Int),(∀ r,Ev (fun k=>jP.f k s r at_) (DD wv U r)∧Ev (fun k=>eI.f k w r at_) (DD wv U r)∧(DD wv U r).length≤1000)∧
  ∀ (who:BA) (since:Int),0≤since→since≤w.aC+(Z.length:Int)→
   Ev (fun k=>sync_Make.f k s who since at_) (⟨w.aC+(Z.length:Int),(Be wv who w.fM Z w.aC since).map KZ,DU wv who U Z w.aC since,D3 wv who S Z w.aC since⟩,0)∧
   Ev (fun k=>bf.f k w who since at_) (⟨w.aC+(Z.length:Int),Be wv who w.fM Z w.aC since,DU wv who U Z w.aC since,D3 wv who S Z w.aC since⟩,0)∧
   (Be wv who w.fM Z w.aC since).length≤1000∧Sm3 (DU wv who U Z w.aC since) (D3 wv who S Z w.aC since):=by
 obtain ⟨U,S,hU,hS⟩:=ops B hn at_
 have ul:∀ r,(DD wv U r).length≤1000:=fun r=>Nat.le_trans (List.length_filter_le _ _) (hU r).1
 refine ⟨U,S,fun r=>⟨Fy B hU H r,xZ B hU H hz r,ul r⟩,fun who since h0 h1=>⟨F5 B hU hS H hz who h0 h1,Fv B hU hS H hz who h0 h1,?_,?_,?_,?_⟩⟩
 ·have:=H.ml; exact Nat.le_trans (List.length_filter_le _ _) om
 ·unfold DU; rw [List.length_map]; have:=(sD Z).2.1; exact Nat.le_trans (List.length_filter_le _ _) om
 ·intro x hx
  obtain ⟨r,_,rfl⟩:=List.mem_map.1 hx
  exact ul r
 ·unfold D3; rw [List.length_map]; have:=(sZ Z).2.1; exact Nat.le_trans (List.length_filter_le _ _) om
theorem EO (who:BA) (since at_:Int):∃ r x y c,Ev (fun k=>sync_Make.f k s who since at_) (r,c)∧Ev (fun k=>bf.f k w who since at_) (x,c)∧r.ig=x.ig∧Ev (fun k=>eJ.f k r) y∧Ev (fun k=>dC.f k y x) true:=by
 by_cases h:0≤since∧since≤w.aC+(Z.length:Int)
 ·obtain ⟨U,S,_,h1⟩:=C8 B hn H hz at_
  obtain ⟨a1,a2,a3,a4⟩:=h1 who since h.1 h.2
  have h2:=JQ (⟨w.aC+(Z.length:Int),(Be wv who w.fM Z w.aC since).map KZ,DU wv who U Z w.aC since,D3 wv who S Z w.aC since⟩:wx) (by rw [List.length_map]; exact a3) a4.t a4.p
  refine ⟨_,_,_,0,a1,a2,rfl,h2,?_⟩
  have h3:=Al (⟨w.aC+(Z.length:Int),((Be wv who w.fM Z w.aC since).map KZ).map toK,DU wv who U Z w.aC since,D3 wv who S Z w.aC since⟩:mf) (⟨w.aC+(Z.length:Int),Be wv who w.fM Z w.aC since,DU wv who U Z w.aC since,D3 wv who S Z w.aC since⟩:mf) (by rw [List.length_map,List.length_map]; exact a3) a4
  rw [dT ⟨Hv _,rfl,rfl⟩] at h3
  exact h3
 ·obtain ⟨b1,b2⟩:=E3 H hz who at_ (since:=since) om
  refine ⟨_,_,⟨0,[],[],[]⟩,10,b1,b2,rfl,JQ ⟨0,[],[],[]⟩ (Nat.zero_le _) (Nat.zero_le _) (Nat.zero_le _),?_⟩
  have h3:=Al (⟨0,[],[],[]⟩:mf) ⟨0,[],[],[]⟩ (Nat.zero_le _) ⟨Nat.zero_le _,fun x hx=>(by cases hx),Nat.zero_le _⟩
  rw [dT ⟨rfl,rfl,rfl⟩] at h3
  exact h3
end
theorem Jl {a2:List ak} (ok:∀ x∈a2,ak.ok x) {v:aN} {wv:bA}:∀ d x:Nat,10-x=d→x≤10→x≤a2.length→∀ t T p P s w (Z:List Cx),Bs v wv t T p P x→St v wv t T p P s w Z→Z.length=x→
  ∃ m b t' T' p' P' s' w' Z',El (fun k j=>bF.l1 k a2 j (x:Int) w s.dB s.aJ s.az s.bu s.jy) (.inl (m,b,w',s'.dB,s'.aJ,s'.az,s'.bu,s'.jy))∧Bs v wv t' T' p' P' 10∧St v wv t' T' p' P' s' w' Z'∧Z'.length≤10∧w'.aC=w.aC:=by
 intro d
 induction d with
 | zero=>
  intro x hd hx hl t T p P s w Z B H hz
  obtain rfl:x=10:=om
  refine ⟨((10:Nat):Int),false,t,T,p,P,s,w,Z,El.step (fun _ _=>by rw [bF.l1]) ?_,B,H,om,rfl⟩
  by_cases h:10<a2.length
  ·exact El.ct (dT om) (El.cf rfl El.pure)
  ·exact El.cf (dF om) El.pure
 | succ d ih=>
  intro x hd hx hl t T p P s w Z B H hz
  by_cases h:x<a2.length
  ·have hat:ak.K.at a2 (x:Int)=a2[x]:=oI h
   obtain ⟨e,e1,e2,_⟩:=HX (ok a2[x] (List.getElem_mem h))
   obtain ⟨o,t',T',p',P',b1,_,b3⟩:=Iy B om e2
   obtain ⟨s',w',c1,c2,c3,_⟩:=b3 s w Z H om
   obtain ⟨m,b,t2,T2,p2,P2,s2,w2,Z2,d1,d2,d3,d4,d5⟩:=ih (x+1) om om om t' T' p' P' s' w' _ b1 c2 (by rw [List.length_append,hz]; rfl)
   refine ⟨m,b,t2,T2,p2,P2,s2,w2,Z2,El.step (fun _ _=>by rw [bF.l1]) ?_,d2,d3,d4,d5.trans c3⟩
   rw [hat]
   refine El.ct (dT om) (El.ct (dT om) (El.an ⟨om,om⟩ (El.bind e1.el (El.bind c1.el (El.cf rfl ?_)))))
   rw [jJ om]
   exact d1
  ·refine ⟨(x:Int),false,t,T,p,P,s,w,Z,El.step (fun _ _=>by rw [bF.l1]) ?_,⟨B.ok,Ty.nS B.ty hx,Pr.nS B.pr hx⟩,H,om,rfl⟩
   exact El.cf (dF om) El.pure
theorem uW (a0:List dz) (a1:List dz) (a2:List ak) (a3:Int) (a4:Int) (a5:Int) (a6:Int) (k0:(fun xs:List dz=>xs.length≤maxLen∧∀ x∈xs,dz.ok x) a0) (k1:(fun xs:List dz=>xs.length≤maxLen∧∀ x∈xs,dz.ok x) a1) (k2:(fun xs:List ak=>xs.length≤maxLen∧∀ x∈xs,ak.ok x) a2) (k3:(fun n=>(Lit.int .i64 n).wf=true) a3) (k4:(fun n=>(Lit.int .i64 n).wf=true) a4) (k5:(fun n=>(Lit.int .i64 n).wf=true) a5) (k6:(fun n=>(Lit.int .i64 n).wf=true) a6):∃ k,bF.f k a0 a1 a2 a3 a4 a5 a6=some true:=by
 suffices h:Ev (fun k=>bF.f k a0 a1 a2 a3 a4 a5 a6) true from h.ex
 obtain ⟨L,v,wv,m1,m2,R⟩:=EA k0 k1
 obtain ⟨fr_,f1,f2,f3⟩:=fi (m:=51) (kF k3) dc dc
 have hst:=Gl R m2 (from_:=fr_) ⟨f2,om⟩
 obtain ⟨B0,H0⟩:=K5 R (from_:=fr_) ⟨f2,om⟩
 obtain ⟨m,b,t,T,p,P,s,w,Z,r1,B,H,hz,hfr⟩:=Jl k2.2 _ 0 rfl om (Nat.zero_le _) _ _ _ _ _ _ [] B0 H0 rfl
 obtain ⟨who,u1,_⟩:=tE (kF k4)
 have hfr':w.aC=fr_:=hfr
 have hlen:w.fL.length=Z.length:=by rw [H.ch,List.length_map]
 have w1:av (w.aC+(w.fL.length:Int))=w.aC+(Z.length:Int):=by rw [hlen,aG om om]
 have w2:av (w.aC+(Z.length:Int)+1)=w.aC+(Z.length:Int)+1:=aG om om
 obtain ⟨tk,t1,t2,t3⟩:=fi (m:=w.aC+(Z.length:Int)+1) (kF k5) om om
 obtain ⟨ti,i1,i2,i3⟩:=fi (m:=200) (kF k6) dc dc
 obtain ⟨ro,ro1,_⟩:=xz (kF k4)
 have loop:∀ n x:Nat,4-x=n→x≤4→El (fun k j=>bF.l0 k a5 a6 (m,b,w,s.dB,s.aJ,s.az,s.bu,s.jy) who tk ti ti j (x:Int)) (.inl (4,false)):=by
  intro n
  induction n with
  | zero=>
   intro x hd hx
   obtain rfl:x=4:=om
   refine El.step (fun _ _=>by rw [bF.l0]) ?_
   exact El.cf rfl El.pure
  | succ n ih=>
   intro x hd hx
   have i:=ih (x+1) om om
   refine El.step (fun _ _=>by rw [bF.l0]) ?_
   generalize htok:(bq .i64).at ([a5,0,tk,av (w.aC+(w.fL.length:Int))]:List Int) (x:Int)=tok
   generalize htic:(bq .i64).at ([ti,a6,ti,0]:List Int) (x:Int)=tic
   obtain ⟨r,rx,y,c,q1,q2,q3,q4,q5⟩:=EO B om H om who tok tic
   have l1:(0:Int)≤(x:Int)∧(x:Int)<4:=om
   refine El.ct (dT l1.2) (El.an l1 (El.an l1 (El.bind q1.el (El.an l1 (El.an l1 (El.bind q2.el (El.cf sM (El.cf (by rw [q3]; simp) (El.bind q4.el (El.bind q5.el (El.cf rfl ?_)))))))))))
   rw [jJ om]
   exact i
 unfold bF.f
 refine Ev.bind m1 (Ev.bind (Ev.of f1) (Ev.bind hst (Ev.cf rfl (Ev.bind r1.diag ?_))))
 simp only [fall]
 rw [w1,w2]
 refine Ev.bind (Ev.of u1) (Ev.bind (Ev.of t1) (Ev.bind (Ev.of i1) (Ev.bind (Ev.of i1) (Ev.bind (loop _ 0 rfl om).diag ?_))))
 simp only [fall]
 obtain ⟨U,S,hU,_⟩:=C8 B om H om ti
 obtain ⟨a1,a2,a3⟩:=hU ro
 have h3:=uZ (DD wv U ro) (DD wv U ro) a3
 rw [dT rfl] at h3
 exact Ev.bind (Ev.of ro1) (Ev.an ⟨dc,(by decide:(0:Int)<4)⟩ (Ev.an ⟨dc,(by decide:(0:Int)<4)⟩ (Ev.bind a1 (Ev.bind a2 (Ev.bind h3 (Ev.ct rfl (Ev.bind EV Ev.pure)))))))
end Go.Proofs.YtfknmdelgepbjaaGreatDoor
