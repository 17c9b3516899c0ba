import Derived.Test.YtfknmdelgepbjaaGreatDoorWZYJ
set_option linter.all false
set_option maxRecDepth 10000
namespace Go.Proofs.YtfknmdelgepbjaaGreatDoor
open Go Go.Sp
theorem wV {α:Type} {K:Kd α} {l:List α} {m:Nat} (h:m<l.length):K.at l (m:Int)=l[m]:=by
 unfold Kd.at; rw [Int.toNat_natCast]; simp [h]
theorem Jf {α:Type} [DecidableEq α] {a b:List α} {F:Nat→Nat→Int→Option ((Int×Bool) ⊕ Bool)} (hl:a.length=b.length)
  (h1:∀ x (ha:x<a.length) (hb:x<b.length),a[x]=b[x]→∀ r,El (fun k j=>F k j ((x+1:Nat):Int)) r→El (fun k j=>F k j (x:Int)) r)
  (h2:∀ x (ha:x<a.length) (hb:x<b.length),a[x]≠b[x]→El (fun k j=>F k j (x:Int)) (.inr false))
  (h3:El (fun k j=>F k j (a.length:Int)) (.inl ((a.length:Int),false))):El (fun k j=>F k j 0) (if a=b then .inl ((a.length:Int),false) else .inr false):=by
 have:∀ n x:Nat,a.length-x=n→x≤a.length→El (fun k j=>F k j (x:Int)) (if a.drop x=b.drop x then .inl ((a.length:Int),false) else .inr false):=by
  intro n
  induction n with
  | zero=>
   intro x hd hx
   obtain rfl:x=a.length:=om
   rw [if_pos (by rw [List.drop_length,hl,List.drop_length])]; exact h3
  | succ n ih=>
   intro x hd hx
   have ha:x<a.length:=om
   have hb:x<b.length:=om
   have i:=ih (x+1) om om
   rw [List.drop_eq_getElem_cons ha,List.drop_eq_getElem_cons hb]
   by_cases e:a[x]=b[x]
   ·refine h1 x ha hb e _ ?_
    rw [e]
    by_cases k:a.drop (x+1)=b.drop (x+1)
    ·rw [if_pos k] at i; rw [if_pos (by rw [k])]; exact i
    ·rw [if_neg k] at i; rw [if_neg (fun h=>k (List.cons.inj h).2)]; exact i
   ·rw [if_neg (fun h=>e (List.cons.inj h).1)]; exact h2 x ha hb e
 exact this _ 0 rfl om
theorem IQ {p:Prop} [Decidable p] {n:Int} {F:Nat→Option ((Int×Bool) ⊕ Bool)} (h:Ev F (if p then .inl (n,false) else .inr false)):Ev (fun k=>(F k).bind (fall fun _=>some true)) (decide p):=by
 by_cases e:p
 ·rw [if_pos e] at h; rw [dT e]; exact Ev.bind h (by simp only [fall]; exact Ev.pure)
 ·rw [if_neg e] at h; rw [dF e]; exact Ev.bind h (by simp only [fall]; exact Ev.pure)
theorem Lw {α:Type} {a b:List α} (h:¬ a.length=b.length):a≠b∧((a.length:Int) != (b.length:Int))=true:=⟨fun e=>h (by rw [e]),by simpa using fun e=>h om⟩
theorem KB {α:Type} {a b:List α} (h:a.length=b.length):((a.length:Int) != (b.length:Int))=false:=by rw [h]; simp
theorem IH (a b:List MK) (ha:a.length≤1000):Ev (fun k=>ic.f k a b) (decide (a=b)):=by
 unfold ic.f
 by_cases hl:a.length=b.length
 ·refine Ev.cf (KB hl) (IQ (Jf (F:=fun k j x=>ic.l0 k a b j x) hl (fun x xa xb e r hr=>?_) (fun x xa xb e=>?_) ?_).diag)
  ·refine El.step (fun _ _=>by rw [ic.l0]) ?_
   refine El.ct (dT om) (El.an ⟨om,om⟩ (El.an ⟨om,om⟩ (El.cf (by rw [wV xa,wV xb]; show (!decide (a[x]=b[x]))=_; rw [dT e]; rfl) ?_)))
   rwa [kH om]
  ·refine El.step (fun _ _=>by rw [ic.l0]) ?_
   exact El.ct (dT om) (El.an ⟨om,om⟩ (El.an ⟨om,om⟩ (El.ct (by rw [wV xa,wV xb]; show (!decide (a[x]=b[x]))=_; rw [dF e]; rfl) El.pure)))
  ·refine El.step (fun _ _=>by rw [ic.l0]) ?_
   rw [dF om]; exact El.pure
 ·obtain ⟨l1,l2⟩:=Lw hl
  rw [dF l1]; exact Ev.ct l2 Ev.pure
structure Sm3 (T:List fQ) (P:List fU):Prop where
 t:T.length≤1000
 u:∀ x∈T,x.Cn.length≤1000
 p:P.length≤1000
def toK (m:jg):MK:=⟨m.dx,m.eH⟩
theorem Kl (r:uN) (hm:r.ay.length≤1000) (ht:r.aO.length≤1000) (hp:r.gP.length≤1000):Ev (fun k=>ey.f k r) ⟨r.jD,r.ay.map toK,r.aO,r.gP⟩:=by
 have l2:∀ n x:Nat,r.ay.length-x=n→x≤r.ay.length→El (fun k j=>ey.l2 k r j (x:Int) ((r.ay.take x).map toK)) ((r.ay.length:Int),false,r.ay.map toK):=by
  intro n
  induction n with
  | zero=>
   intro x hd hx
   obtain rfl:x=r.ay.length:=om
   refine El.step (fun _ _=>by rw [ey.l2]) ?_
   rw [dF om,List.take_length]; exact El.pure
  | succ n ih=>
   intro x hd hx
   have hx2:x<r.ay.length:=om
   have i:=ih (x+1) om om
   rw [List.take_succ_eq_append_getElem hx2,List.map_append] at i
   refine El.step (fun _ _=>by rw [ey.l2]) ?_
   rw [wV hx2,kH om]
   refine El.ct (dT om) (El.an ⟨om,om⟩ (El.an ⟨om,om⟩ (El.an ?_ i)))
   rw [List.length_map,List.length_take,List.length_singleton]; omega
 have l1:∀ n x:Nat,r.aO.length-x=n→x≤r.aO.length→El (fun k j=>ey.l1 k r j (x:Int) (r.aO.take x)) ((r.aO.length:Int),false,r.aO):=by
  intro n
  induction n with
  | zero=>
   intro x hd hx
   obtain rfl:x=r.aO.length:=om
   refine El.step (fun _ _=>by rw [ey.l1]) ?_
   rw [dF om,List.take_length]; exact El.pure
  | succ n ih=>
   intro x hd hx
   have hx2:x<r.aO.length:=om
   have i:=ih (x+1) om om
   rw [List.take_succ_eq_append_getElem hx2] at i
   refine El.step (fun _ _=>by rw [ey.l1]) ?_
   rw [wV hx2,kH om]
   refine El.ct (dT om) (El.an ⟨om,om⟩ (El.an ?_ i))
   rw [List.length_take,List.length_singleton]; omega
 have l0:∀ n x:Nat,r.gP.length-x=n→x≤r.gP.length→El (fun k j=>ey.l0 k r j (x:Int) (r.gP.take x)) ((r.gP.length:Int),false,r.gP):=by
  intro n
  induction n with
  | zero=>
   intro x hd hx
   obtain rfl:x=r.gP.length:=om
   refine El.step (fun _ _=>by rw [ey.l0]) ?_
   rw [dF om,List.take_length]; exact El.pure
  | succ n ih=>
   intro x hd hx
   have hx2:x<r.gP.length:=om
   have i:=ih (x+1) om om
   rw [List.take_succ_eq_append_getElem hx2] at i
   refine El.step (fun _ _=>by rw [ey.l0]) ?_
   rw [wV hx2,kH om]
   refine El.ct (dT om) (El.an ⟨om,om⟩ (El.an ?_ i))
   rw [List.length_take,List.length_singleton]; omega
 unfold ey.f
 exact Ev.bind (l2 _ 0 rfl om).diag (Ev.bind (l1 _ 0 rfl om).diag (Ev.bind (l0 _ 0 rfl om).diag Ev.pure))
theorem Lg (P:List Event) (c:Event) (C:List Event):Event.K.at (P++c::C) (P.length:Int)=c:=by
 unfold Kd.at; rw [Int.toNat_natCast]; simp [List.getElem?_append_right]
theorem B2 {L:List Event} (hl:L.length≤1000) {t1:(Option jA)×Int} {t2:(Option b8)×Int} {t3:bS} {t4:b7} {v w C v' w'} (h:qv v w C v' w'):∀ A,L=A++C→
  El (fun k j=>gG.l0 k L t1 t2 t3 t4 j (A.length:Int) v) (.inl ((L.length:Int),false,v'))∧El (fun k j=>gZ.l0 k L j (A.length:Int) w.fD) ((L.length:Int),false,w'.fD):=by
 induction h with
 | nil _=>
  intro A e
  rw [List.append_nil] at e
  constructor
  ·refine El.step (fun _ _=>by rw [gG.l0]) ?_
   rw [dF (by rw [e]; omega),e]; exact El.pure
  ·refine El.step (fun _ _=>by rw [gZ.l0]) ?_
   rw [dF (by rw [e]; omega),e]; exact El.pure
 | @cons v w c v1 w1 C v' w' _ a b _ ih=>
  intro A e
  have hlt:A.length<L.length:=by rw [e]; simp
  have hat:Event.K.at L (A.length:Int)=c:=by rw [e]; exact Lg _ _ _
  obtain ⟨i1,i2⟩:=ih (A++[c]) (by rw [e]; simp)
  have hw:av ((A.length:Int)+1)=(((A++[c]).length:Nat):Int):=by rw [aE om om,List.length_append]; rfl
  constructor
  ·refine El.step (fun _ _=>by rw [gG.l0]) ?_
   rw [hat,hw]
   exact El.ct (dT om) (El.an ⟨om,om⟩ (El.bind a.el (El.cf rfl i1)))
  ·refine El.step (fun _ _=>by rw [gZ.l0]) ?_
   rw [hat,hw]
   exact El.ct (dT om) (El.an ⟨om,om⟩ (El.bind b.el i2))
def src0 (v:aJ) (from_:Int):Src:=⟨v,⟨⟨[]⟩,⟨8,[],0⟩⟩,⟨[],⟨[],[]⟩⟩,⟨[],⟨[],[]⟩⟩,⟨⟨⟨from_⟩,from_+1000⟩,[],[]⟩⟩
def ref0 (wv:bA) (from_:Int):dy:=⟨wv,[],⟨[],[]⟩,⟨[],[]⟩,[],from_⟩
theorem Gw {L v wv} (R:qv ⟨[]⟩ ⟨[]⟩ L v wv) (hl:L.length≤18) {from_:Int} (hf:0≤from_∧from_≤1000):Ev (fun k=>gG.f k L from_) (src0 v from_,ref0 wv from_,true):=by
 have h1:oB.f 8=some (some ⟨⟨[]⟩,⟨8,[],0⟩⟩,0):=rfl
 have hw:av (from_+1000)=from_+1000:=aE om om
 have h2:nC.f from_ (from_+1000)=some (some ⟨⟨⟨from_⟩,from_+1000⟩,[],[]⟩,0):=by
  unfold nC.f oE.f
  rw [dF (by omega:¬ from_+1000<1),dF (by omega:¬ 1099511627776<from_+1000),dF (by omega:¬ from_<0),dF (by omega:¬ from_+1000<from_)]
  rfl
 obtain ⟨s1,s2⟩:=B2 (L:=L) om (t1:=(some ⟨⟨[]⟩,⟨8,[],0⟩⟩,0)) (t2:=(some ⟨⟨⟨from_⟩,from_+1000⟩,[],[]⟩,0)) (t3:=⟨[],⟨[],[]⟩⟩) (t4:=⟨[],⟨[],[]⟩⟩) R [] rfl
 unfold gG.f
 rw [hw]
 refine Ev.bind (Ev.of h1) (Ev.bind (Ev.of h2) (Ev.bind (Ev.of rfl) (Ev.bind (Ev.of Ty.Ct) (Ev.bind (Ev.of Pr.Ct) (Ev.an rfl (Ev.an rfl (Ev.cf rfl (Ev.cf rfl (Ev.bind s1.diag ?_)))))))))
 simp only [fall]
 refine Ev.bind ?_ Ev.pure
 unfold gZ.f
 exact Ev.bind s2.diag Ev.pure
theorem K4 {L v wv} (R:qv ⟨[]⟩ ⟨[]⟩ L v wv) {from_:Int} (hf:0≤from_∧from_≤1000):Bs v wv ⟨[],⟨[],[]⟩⟩ [] ⟨[],⟨[],[]⟩⟩ [] 0∧St v wv ⟨[],⟨[],[]⟩⟩ [] ⟨[],⟨[],[]⟩⟩ [] (src0 v from_) (ref0 wv from_) []:=
 ⟨⟨R.ok2,Ty.sB,Pr.sB⟩,⟨rfl,rfl,rfl,rfl,rfl,rfl,⟨FF,rfl,Nat.zero_le _⟩,Nat.le_refl _,fun m hm=>(by cases hm),G4 ⟨hf.1,om⟩,rfl⟩⟩
theorem Gs:Ev (fun _=>oU.f) true:=Ev.of kr
theorem DO (M:List MK):(M.map KF).map toK=M:=by rw [List.map_map]; exact List.map_id'' (fun _=>rfl) M
section
variable {v:aJ} {wv:bA} {t:bS} {T:List (ak×Bool)} {p:b7} {P:List (ak×Int)} {n:Nat}
 {s:Src} {w:dy} {Z:List Cx} (B:Bs v wv t T p P n) (hn:n≤1000) (H:St v wv t T p P s w Z) (hz:Z.length≤100)
include B hn H hz
theorem DQ (at_:Int):∃ (U:BA→List BA) (S:BA→Int),(∀ r,Ev (fun k=>lx.f k s r at_) (EX wv U r)∧Ev (fun k=>fi.f k w r at_) (EX wv U r)∧(EX wv U r).length≤1000)∧
  ∀ (who:BA) (since:Int),0≤since→since≤w.aL+(Z.length:Int)→
   Ev (fun k=>sync_Make.f k s who since at_) (⟨w.aL+(Z.length:Int),(oY wv who w.fM Z w.aL since).map KF,Bp wv who U Z w.aL since,Bn wv who S Z w.aL since⟩,0)∧
   Ev (fun k=>bu.f k w who since at_) (⟨w.aL+(Z.length:Int),oY wv who w.fM Z w.aL since,Bp wv who U Z w.aL since,Bn wv who S Z w.aL since⟩,0)∧
   (oY wv who w.fM Z w.aL since).length≤1000∧Sm3 (Bp wv who U Z w.aL since) (Bn wv who S Z w.aL since):=by
 obtain ⟨U,S,hU,hS⟩:=ops B hn at_
 have ul:∀ r,(EX wv U r).length≤1000:=fun r=>Nat.le_trans (List.length_filter_le _ _) (hU r).1
 refine ⟨U,S,fun r=>⟨FH B hU H r,xS B hU H hz r,ul r⟩,fun who since h0 h1=>⟨He B hU hS H hz who h0 h1,GW B hU hS H hz who h0 h1,?_,?_,?_,?_⟩⟩
 ·have:=H.ml; exact Nat.le_trans (List.length_filter_le _ _) om
 ·unfold Bp; rw [List.length_map]; have:=(tR Z).2.1; exact Nat.le_trans (List.length_filter_le _ _) om
 ·intro x hx
  obtain ⟨r,_,rfl⟩:=List.mem_map.1 hx
  exact ul r
 ·unfold Bn; rw [List.length_map]; have:=(tD Z).2.1; exact Nat.le_trans (List.length_filter_le _ _) om
end
theorem yQ (a:Pos):ltOf fq a a=false:=nD.irrefl a
def lY (all D:List MK):List MK:=D.foldl (fun a d=>putM a d.fK d.eH) all
structure Mg (all all' D:List MK):Prop where
 ri:nL all'
 len:all'.length≤all.length+D.length
 inn:∀ d∈D,gM all' d.fK=some d.eH
 out:∀ k,(∀ d∈D,d.fK≠k)→gM all' k=gM all k
theorem DA {o:Option Pos} {q:Pos} (h:∀ p,o=some p→ltOf fq q p=false):newA o q=q:=by
 cases o with
 | none=>rfl
 | some p=>
  have h1:=h p rfl
  unfold newA
  by_cases h2:ltOf fq p q=true
  ·simp [h2]
  ·simp only [h2]
   exact qH p q (by simpa using h2) h1
theorem Ae:∀ (D:List MK) (all:List MK),nL all→(∀ d∈D,∀ e∈D,d.fK=e.fK→d.eH=e.eH)→(∀ d∈D,∀ p,gM all d.fK=some p→ltOf fq d.eH p=false)→Mg all (lY all D) D
 | [],all,hs,_,_=>⟨hs,Nat.le_refl _,fun d h=>(by cases h),fun _ _=>rfl⟩
 | d::D,all,hs,hu,hc=>by
  have hd:gM (putM all d.fK d.eH) d.fK=some d.eH:=by
   rw [qF hs,if_pos rfl,DA (hc d List.mem_cons_self)]
  have ih:=Ae D (putM all d.fK d.eH) (uE hs) (fun a ha b hb=>hu a (List.mem_cons_of_mem _ ha) b (List.mem_cons_of_mem _ hb)) (fun e he p hp=>by
   by_cases k:e.fK=d.fK
   ·rw [k,hd] at hp
    rw [← Option.some.inj hp,hu e (List.mem_cons_of_mem _ he) d List.mem_cons_self k]; exact yQ _
   ·rw [qF hs,if_neg k] at hp
    exact hc e (List.mem_cons_of_mem _ he) p hp)
  refine ⟨ih.ri,?_,fun e he=>?_,fun k hk=>?_⟩
  ·have:=ih.len; have:=uz (M:=all) (k:=d.fK) (at_:=d.eH); simp only [List.length_cons]; show (lY (putM all d.fK d.eH) D).length≤_; omega
  ·show gM (lY (putM all d.fK d.eH) D) e.fK=_
   rcases List.mem_cons.1 he with rfl | he
   ·by_cases k:∀ x∈D,x.fK≠e.fK
    ·rw [ih.out _ k,hd]
    ·obtain ⟨x,hx⟩:=Classical.not_forall.1 k
     obtain ⟨hx1,hx2⟩:=Classical.not_imp.1 hx
     have hx3:=Classical.not_not.1 hx2
     have i:=ih.inn x hx1
     rw [hx3] at i
     rw [i,hu x (List.mem_cons_of_mem _ hx1) e List.mem_cons_self hx3]
   ·exact ih.inn e he
  ·show gM (lY (putM all d.fK d.eH) D) k=_
   rw [ih.out k fun x hx=>hk x (List.mem_cons_of_mem _ hx),qF hs,if_neg (hk d List.mem_cons_self).symm]
structure Kn (wv:bA) (who:BA) (M all:List MK) (Z:List Cx) (tok:Int):Prop where
 ri:nL all
 tk:0≤tok∧tok≤(Z.length:Int)
 up:∀ k p,gM all k=some p→BD wv who k=true∧∃ q,gM M k=some q∧ltOf fq q p=false
 sL:∀ k,BD wv who k=true→((gU Z (.m k):Nat):Int)≤tok→gM all k=gM M k
theorem Kr {wv:bA} {who:BA} {M all:List MK} {Z:List Cx} {tok:Int} (K:Kn wv who M all Z tok) (hs:nL M) (e:ak) (o:Option Pos):Kn wv who (qM M e o) all (Z++[cx e]) tok:=by
 obtain ⟨k1,k2,k3,k4⟩:=K
 have hold:∀ k,Cx.m k≠cx e→gM (qM M e o) k=gM M k:=fun k hk=>by
  unfold qM
  split
  ·rename_i h1
   have hcx:cx e = .m (z6 e):=by unfold cx; rw [if_pos h1]
   rw [hcx] at hk
   cases o with
   | none=>rfl
   | some q=>show gM (putM M (z6 e) q) k=_; rw [qF hs,if_neg fun h=>hk (by rw [h])]
  ·rfl
 refine ⟨k1,⟨k2.1,by rw [List.length_append]; omega⟩,fun k p hp=>?_,fun k hv hl=>?_⟩
 ·obtain ⟨v1,q,q1,q2⟩:=k3 k p hp
  refine ⟨v1,?_⟩
  by_cases hk:Cx.m k=cx e
  ·have h1:e.aH=1:=by
    unfold cx at hk
    split at hk
    ·rename_i h; exact h
    ·split at hk <;> cases hk
   have hcx:cx e = .m (z6 e):=by unfold cx; rw [if_pos h1]
   rw [hcx] at hk
   obtain rfl:=Cx.m.inj hk
   unfold qM
   rw [if_pos h1]
   cases o with
   | none=>exact ⟨q,q1,q2⟩
   | some r=>
    refine ⟨newA (gM M (z6 e)) r,by show gM (putM M (z6 e) r) _=_; rw [qF hs,if_pos rfl],?_⟩
    rw [q1]
    unfold newA
    by_cases h2:ltOf fq q r=true
    ·simp only [h2,if_true]
     cases h3:ltOf fq r p with
     | false=>rfl
     | true=>have:=nD.trans _ _ _ h2 h3; rw [q2] at this; cases this
    ·simp only [h2]; exact q2
  ·rw [hold k hk]; exact ⟨q,q1,q2⟩
 ·rw [iE] at hl
  by_cases hk:Cx.m k=cx e
  ·rw [if_pos hk.symm] at hl; omega
  ·rw [if_neg fun h=>hk h.symm] at hl
   rw [hold k hk]; exact k4 k hv hl
section
variable {wv:bA} {who:BA} {M all:List MK} {Z:List Cx} {tok:Int}
theorem DP (hs:nL M) (hz:∀ m∈M,Cx.m m.fK∈Z) {since:Int} {d:MK}:d∈oY wv who M Z 0 since↔gM M d.fK=some d.eH∧since<((gU Z (.m d.fK):Nat):Int)∧BD wv who d.fK=true:=by
 unfold oY pq
 rw [List.mem_filter,Bool.and_eq_true,decide_eq_true_iff,rG hs]
 constructor
 ·rintro ⟨h1,⟨_,h2⟩,h3⟩; exact ⟨h1,om,h3⟩
 ·rintro ⟨h1,h2,h3⟩; exact ⟨h1,⟨hz d h1,om⟩,h3⟩
theorem G3 (K:Kn wv who M all Z tok) (hs:nL M) (hz:∀ m∈M,Cx.m m.fK∈Z):Mg all (lY all (oY wv who M Z 0 tok)) (oY wv who M Z 0 tok)∧Kn wv who M (lY all (oY wv who M Z 0 tok)) Z (Z.length:Int)∧∀ k,gM (lY all (oY wv who M Z 0 tok)) k=if BD wv who k=true then gM M k else none:=by
 have hm:=fun d=>DP (wv:=wv) (who:=who) hs hz (since:=tok) (d:=d)
 have G:Mg all (lY all (oY wv who M Z 0 tok)) (oY wv who M Z 0 tok):=by
  refine Ae _ _ K.ri (fun a ha b hb h=>?_) (fun d hd p hp=>?_)
  ·have h1:=((hm a).1 ha).1; have h2:=((hm b).1 hb).1
   rw [h] at h1; rw [h1] at h2; exact Option.some.inj h2
  ·obtain ⟨_,q,q1,q2⟩:=K.up _ _ hp
   rw [((hm d).1 hd).1] at q1
   rw [Option.some.inj q1]; exact q2
 have all_eq:∀ k,gM (lY all (oY wv who M Z 0 tok)) k=if BD wv who k=true then gM M k else none:=fun k=>by
  by_cases hv:BD wv who k=true
  ·rw [if_pos hv]
   cases hg:gM M k with
   | none=>
    rw [G.out k fun d hd e=>by have:=((hm d).1 hd).1; rw [e,hg] at this; cases this]
    cases ha:gM all k with
    | none=>rfl
    | some p=>obtain ⟨_,q,q1,_⟩:=K.up k p ha; rw [hg] at q1; cases q1
   | some q=>
    by_cases hl:tok<((gU Z (.m k):Nat):Int)
    ·have:=G.inn ⟨k,q⟩ ((hm ⟨k,q⟩).2 ⟨hg,hl,hv⟩)
     exact this
    ·rw [G.out k fun d hd e=>by have:=((hm d).1 hd).2.1; rw [e] at this; omega,K.sL k hv om,hg]
  ·rw [if_neg hv,G.out k fun d hd e=>by have:=((hm d).1 hd).2.2; rw [e] at this; exact hv this]
   cases ha:gM all k with
   | none=>rfl
   | some p=>exact absurd (K.up k p ha).1 hv
 refine ⟨G,⟨G.ri,⟨om,Int.le_refl _⟩,fun k p hp=>?_,fun k hv _=>?_⟩,all_eq⟩
 ·rw [all_eq] at hp
  by_cases hv:BD wv who k=true
  ·rw [if_pos hv] at hp; exact ⟨hv,p,hp,yQ p⟩
  ·rw [if_neg hv] at hp; cases hp
 ·rw [all_eq,if_pos hv]
end
theorem HP {a b:List MK} (ha:nL a) (hb:nL b) (h:∀ k,gM a k=gM b k):a=b:=by
 have nd:∀ {l:List MK},nL l→l.Nodup:=fun h=>h.imp fun {x y} hxy e=>by subst e; rw [qZ] at hxy; cases hxy
 have hp:a.Perm b:=(List.perm_ext_iff_of_nodup (nd ha) (nd hb)).2 fun x=>by
  have h1:=rG ha (k:=x.fK) (p:=x.eH); have h2:=rG hb (k:=x.fK) (p:=x.eH)
  rw [h x.fK] at h1
  exact h1.symm.trans h2
 refine List.Perm.eq_of_pairwise (le:=fun x y:MK=>qG x.fK y.fK=true) ?_ ha hb hp
 intro x y hx hy h1 h2
 rw [F5 h1] at h2; cases h2
theorem Ek {M:List MK} (hs:nL M) (u:bB→Bool) (k:bB):gM (M.filter fun m=>u m.fK) k=if u k=true then gM M k else none:=by
 have hs2:nL (M.filter fun m=>u m.fK):=hs.sublist List.filter_sublist
 by_cases hv:u k=true
 ·rw [if_pos hv]
  apply Option.ext
  intro p
  rw [rG hs2,rG hs,List.mem_filter]
  exact ⟨fun h=>h.1,fun h=>⟨h,hv⟩⟩
 ·rw [if_neg hv]
  refine rU fun m hm e=>hv ?_
  have:=(List.mem_filter.1 hm).2
  rwa [e] at this
theorem Dx {D:List MK} {tk_:Int} {TT:List fQ} {PP:List fU} (hD:D.length≤100):∀ (C A:List MK) (all:List MK),D=A++C→nL all→all.length+C.length≤1000→
  El (fun k j=>aF.l0 k ⟨tk_,D,TT,PP⟩ j all (A.length:Int)) (lY all C,(D.length:Int),false)
 | [],A,all,he,hs,hl=>by
  refine El.step (fun _ _=>by rw [aF.l0]) ?_
  rw [List.append_nil] at he
  dsimp only
  rw [dF (by rw [he]; omega),he]
  exact El.pure
 | c::C,A,all,he,hs,hl=>by
  have hlt:A.length<D.length:=by rw [he]; simp
  have hat:MK.K.at D (A.length:Int)=c:=by rw [he]; exact pH _ _ _
  have hlen:=uz (M:=all) (k:=c.fK) (at_:=c.eH)
  have ih:=Dx (tk_:=tk_) (TT:=TT) (PP:=PP) hD C (A++[c]) (putM all c.fK c.eH) (by rw [he]; simp) (uE hs) (by simp only [List.length_cons] at hl; omega)
  have hw:av ((A.length:Int)+1)=(((A++[c]).length:Nat):Int):=by rw [aE om om,List.length_append]; rfl
  refine El.step (fun _ _=>by rw [aF.l0]) ?_
  dsimp only
  rw [hat,hw]
  simp only [List.length_cons] at hl
  exact El.ct (dT om) (El.an ⟨om,om⟩ (El.an ⟨om,om⟩ (El.bind (uH hs om c.fK c.eH).el ih)))
theorem DT {D:List MK} {tk_:Int} {TT:List fQ} {PP:List fU} (hD:D.length≤100):∀ (C A:List MK) (all:List MK),D=A++C→nL all→all.length+C.length≤1000→(∀ d∈C,∀ e∈C,d.fK=e.fK→d.eH=e.eH)→(∀ d∈C,∀ p,gM all d.fK=some p→ltOf fq d.eH p=false)→
  El (fun k j=>aF.l2 k ⟨tk_,D,TT,PP⟩ j all (A.length:Int)) (.inl (lY all C,(D.length:Int),false))
 | [],A,all,he,hs,hl,hu,hc=>by
  refine El.step (fun _ _=>by rw [aF.l2]) ?_
  rw [List.append_nil] at he
  dsimp only
  rw [dF (by rw [he]; omega),he]
  exact El.pure
 | c::C,A,all,he,hs,hl,hu,hc=>by
  have hlt:A.length<D.length:=by rw [he]; simp
  have hat:MK.K.at D (A.length:Int)=c:=by rw [he]; exact pH _ _ _
  have hlen:=uz (M:=all) (k:=c.fK) (at_:=c.eH)
  simp only [List.length_cons] at hl
  have hd:gM (putM all c.fK c.eH) c.fK=some c.eH:=by rw [qF hs,if_pos rfl,DA (hc c List.mem_cons_self)]
  have ih:=DT (tk_:=tk_) (TT:=TT) (PP:=PP) hD C (A++[c]) (putM all c.fK c.eH) (by rw [he]; simp) (uE hs) om (fun a ha b hb=>hu a (List.mem_cons_of_mem _ ha) b (List.mem_cons_of_mem _ hb)) (fun e he p hp=>by
   by_cases k:e.fK=c.fK
   ·rw [k,hd] at hp
    rw [← Option.some.inj hp,hu e (List.mem_cons_of_mem _ he) c List.mem_cons_self k]; exact yQ _
   ·rw [qF hs,if_neg k] at hp
    exact hc e (List.mem_cons_of_mem _ he) p hp)
  have hw:av ((A.length:Int)+1)=(((A++[c]).length:Nat):Int):=by rw [aE om om,List.length_append]; rfl
  refine El.step (fun _ _=>by rw [aF.l2]) ?_
  dsimp only
  rw [hat,hw]
  refine El.ct (dT om) (El.an ⟨om,om⟩ ?_)
  rcases H7 hs om c.fK with ⟨_,g2⟩ | ⟨i,g1,g2,g3⟩
  ·exact El.bind g2.el (El.cf rfl (El.an ⟨om,om⟩ (El.an ⟨om,om⟩ (El.bind (uH hs om c.fK c.eH).el ih))))
  ·have hmx:max (i:Int) 0=(i:Int):=om
   refine El.bind g3.el (El.ct (dT om) (El.an ⟨om,om⟩ (El.an ⟨om,om⟩ (El.bind (Ev.of (tI _ _)).el (El.cf ?_ (El.an ⟨om,om⟩ (El.an ⟨om,om⟩ (El.bind (uH hs om c.fK c.eH).el ih))))))))
   rw [hmx]
   exact hc c List.mem_cons_self _ g2
theorem C8 {wv:bA} {who:BA} {M:List MK} {Z:List Cx} {a b:Int}:(oY wv who M Z a b).length≤M.length:=List.length_filter_le _ _
theorem Ch {a2:List ak} (ok:∀ x∈a2,ak.ok x) {a3:List Bool} (h3:a3.length≤maxLen) {v:aJ} {wv:bA} (who:BA) (at_:Int):∀ d x:Nat,10-x=d→x≤10→x≤a2.length→∀ t T p P s w (Z:List Cx) tok all,Bs v wv t T p P x→St v wv t T p P s w Z→Z.length=x→w.aL=0→Kn wv who w.fM all Z tok→all.length≤20*x→
  ∃ m b t' T' p' P' s' w' Z' tok' all',El (fun k j=>aF.l1 k a2 a3 who at_ j tok all (x:Int) w s.cI s.ay s.aO s.aR s.fZ) (.inl (tok',all',m,b,w',s'.cI,s'.ay,s'.aO,s'.aR,s'.fZ))∧Bs v wv t' T' p' P' 10∧St v wv t' T' p' P' s' w' Z'∧Z'.length≤10∧w'.aL=0∧Kn wv who w'.fM all' Z' tok'∧all'.length≤200:=by
 intro d
 induction d with
 | zero=>
  intro x hd hx hl t T p P s w Z tok all B H hz f1 K ha
  obtain rfl:x=10:=om
  refine ⟨((10:Nat):Int),false,t,T,p,P,s,w,Z,tok,all,El.step (fun _ _=>by rw [aF.l1]) ?_,B,H,om,f1,K,ha⟩
  by_cases h:10<a2.length
  ·exact El.ct (dT om) (El.cf rfl El.pure)
  ·exact El.cf (dF om) El.pure
 | succ d ih=>
  intro x hd hx hl t T p P s w Z tok all B H hz f1 K ha
  by_cases h:x<a2.length
  ·have hat:ak.K.at a2 (x:Int)=a2[x]:=wV h
   obtain ⟨e,e1,e2,_⟩:=HQ (ok a2[x] (List.getElem_mem h))
   obtain ⟨o,t',T',p',P',b1,_,b3⟩:=I3 B om e2
   obtain ⟨s',w',c1,c2,c3,c4⟩:=b3 s w Z H om
   have hz':(Z++[cx e]).length=x+1:=by rw [List.length_append,hz]; rfl
   have f1':w'.aL=0:=c3.trans f1
   have K':=Kr K H.EI.rel.ri e o
   rw [← c4] at K'
   have hs':=c2.EI.rel.ri
   have done:∀ {X:Nat→Option ((Int×(List MK)×Bool×Bool×Bool×dy×aJ×jA×bS×b7×b8) ⊕ ((Int×(List MK)×Int×Bool×dy×aJ×jA×bS×b7×b8) ⊕ Bool))} (tok1:Int) (o5:List MK) (q1 q2 q3:Bool),Kn wv who w'.fM o5 (Z++[cx e]) tok1→o5.length≤20*(x+1)→
     (∀ k,aF.l1 k a2 a3 who at_=aF.l1 k a2 a3 who at_)→
     ∃ m b t' T' p' P' s2 w2 Z' tok' all',El (fun k j=>aF.l1 k a2 a3 who at_ j tok1 o5 ((x+1:Nat):Int) w' s'.cI s'.ay s'.aO s'.aR s'.fZ) (.inl (tok',all',m,b,w2,s2.cI,s2.ay,s2.aO,s2.aR,s2.fZ))∧Bs v wv t' T' p' P' 10∧St v wv t' T' p' P' s2 w2 Z'∧Z'.length≤10∧w2.aL=0∧Kn wv who w2.fM all' Z' tok'∧all'.length≤200:=
    fun tok1 o5 _ _ _ K1 h1 _=>ih (x+1) om om om t' T' p' P' s' w' _ tok1 o5 b1 c2 hz' f1' K1 h1
   have hask:(∃ hx3:x<a3.length,a3[x]=true)∨¬ (∃ hx3:x<a3.length,a3[x]=true):=Classical.em _
   have h3':a3.length≤9223372036854775807:=h3
   rcases hask with ⟨hx3,hb⟩ | hno
   ·
    obtain ⟨U,S,_,d1⟩:=DQ b1 om c2 om at_
    have tk:=K'.tk
    obtain ⟨p1,_,p3,p4⟩:=d1 who tok tk.1 (by rw [f1']; omega)
    rw [f1'] at p1 p3 p4
    obtain ⟨G,K2,_⟩:=G3 K' hs' c2.mz
    have hml:=c2.ml
    have hDl:(oY wv who w'.fM (Z++[cx e]) 0 tok).length≤11:=Nat.le_trans C8 om
    have G2:=G.len
    obtain ⟨m,b,t2,T2,p2,P2,s2,w2,Z2,tok2,all2,r1,r2⟩:=ih (x+1) om om om t' T' p' P' s' w' _ _ _ b1 c2 hz' f1' K2 om
    refine ⟨m,b,t2,T2,p2,P2,s2,w2,Z2,tok2,all2,El.step (fun _ _=>by rw [aF.l1]) ?_,r2⟩
    rw [hat]
    have hm:min (x:Int) (av ((a3.length:Int)-1))=(x:Int):=by rw [aE om om]; omega
    have hbk:bJ.at a3 (x:Int)=true:=by rw [wV hx3]; exact hb
    rw [hm,hbk]
    have has:=Kl ⟨0+((Z++[cx e]).length:Int),(oY wv who w'.fM (Z++[cx e]) 0 tok).map KF,Bp wv who U (Z++[cx e]) 0 tok,Bn wv who S (Z++[cx e]) 0 tok⟩ (by rw [List.length_map]; exact p3) p4.t p4.p
    rw [DO] at has
    have hin:=DT (D:=oY wv who w'.fM (Z++[cx e]) 0 tok) (tk_:=0+((Z++[cx e]).length:Int)) (TT:=Bp wv who U (Z++[cx e]) 0 tok) (PP:=Bn wv who S (Z++[cx e]) 0 tok) om (oY wv who w'.fM (Z++[cx e]) 0 tok) [] all rfl K.ri om
     (fun a ha b hb h=>by
      have h1:=((DP hs' c2.mz).1 ha).1; have h2:=((DP hs' c2.mz).1 hb).1
      rw [h] at h1; rw [h1] at h2; exact Option.some.inj h2)
     (fun d hd p hp=>by
      obtain ⟨_,q,q1,q2⟩:=K'.up _ _ hp
      rw [((DP hs' c2.mz).1 hd).1] at q1
      rw [Option.some.inj q1]; exact q2)
    have e0:(0:Int)+((Z++[cx e]).length:Int)=((Z++[cx e]).length:Int):=om
    rw [e0] at p1 has hin
    refine El.ct (dT om) (El.ct (dT om) (El.bind (a:=.inl (((Z++[cx e]).length:Int),lY all (oY wv who w'.fM (Z++[cx e]) 0 tok),true,false,true,w',s'.cI,s'.ay,s'.aO,s'.aR,s'.fZ)) (Ev.el ?_) ?_))
    ·refine Ev.an ⟨om,om⟩ (Ev.bind e1 (Ev.bind c1 (Ev.cf rfl (Ev.ct (dT om) (Ev.an ⟨om,om⟩ (Ev.ct rfl (Ev.bind p1 (Ev.cf rfl (Ev.bind has (Ev.bind hin.diag ?_))))))))))
     simp only [fall]
     exact Ev.pure
    ·simp only [fall]
     rw [kH om]
     exact r1
   ·
    obtain ⟨m,b,t2,T2,p2,P2,s2,w2,Z2,tok2,all2,r1,r2⟩:=ih (x+1) om om om t' T' p' P' s' w' _ tok all b1 c2 hz' f1' K' om
    refine ⟨m,b,t2,T2,p2,P2,s2,w2,Z2,tok2,all2,El.step (fun _ _=>by rw [aF.l1]) ?_,r2⟩
    rw [hat]
    by_cases hx3:x<a3.length
    ·have hm:min (x:Int) (av ((a3.length:Int)-1))=(x:Int):=by rw [aE om om]; omega
     have hbk:bJ.at a3 (x:Int)=false:=by
      rw [wV hx3]
      cases hb:a3[x] with
      | false=>rfl
      | true=>exact absurd ⟨hx3,hb⟩ hno
     rw [hm,hbk]
     refine El.ct (dT om) (El.ct (dT om) (El.bind (a:=.inl (tok,all,true,false,false,w',s'.cI,s'.ay,s'.aO,s'.aR,s'.fZ)) (Ev.el ?_) ?_))
     ·exact Ev.an ⟨om,om⟩ (Ev.bind e1 (Ev.bind c1 (Ev.cf rfl (Ev.ct (dT om) (Ev.an ⟨om,om⟩ (Ev.cf rfl Ev.pure))))))
     ·simp only [fall]
      rw [kH om]
      exact r1
    ·refine El.ct (dT om) (El.ct (dT om) (El.bind (a:=.inl (tok,all,true,false,false,w',s'.cI,s'.ay,s'.aO,s'.aR,s'.fZ)) (Ev.el ?_) ?_))
     ·exact Ev.an ⟨om,om⟩ (Ev.bind e1 (Ev.bind c1 (Ev.cf rfl (Ev.cf (dF om) Ev.pure))))
     ·simp only [fall]
      rw [kH om]
      exact r1
  ·refine ⟨(x:Int),false,t,T,p,P,s,w,Z,tok,all,El.step (fun _ _=>by rw [aF.l1]) ?_,⟨B.ok,Ty.nX B.ty hx,Pr.nX B.pr hx⟩,H,om,f1,K,om⟩
   exact El.cf (dF om) El.pure
theorem u9 (a0:List dA) (a1:List dA) (a2:List ak) (a3:List Bool) (a4:Int) (a5:Int) (k0:(fun xs:List dA=>xs.length≤maxLen∧∀ x∈xs,dA.ok x) a0) (k1:(fun xs:List dA=>xs.length≤maxLen∧∀ x∈xs,dA.ok x) a1) (k2:(fun xs:List ak=>xs.length≤maxLen∧∀ x∈xs,ak.ok x) a2) (k3:(fun xs:List Bool=>xs.length≤maxLen∧∀ x∈xs,(fun _=>True) x) a3) (k4:(fun n=>(Lit.int .i64 n).wf=true) a4) (k5:(fun n=>(Lit.int .i64 n).wf=true) a5):∃ k,aF.f k a0 a1 a2 a3 a4 a5=some true:=by
 suffices h:Ev (fun k=>aF.f k a0 a1 a2 a3 a4 a5) true from h.ex
 obtain ⟨L,v,wv,m1,m2,R⟩:=Er k0 k1
 have hst:=Gw R m2 (from_:=0) ⟨om,om⟩
 obtain ⟨B0,H0⟩:=K4 R (from_:=0) ⟨om,om⟩
 obtain ⟨who,v1,_⟩:=tK (lV k4)
 obtain ⟨at_,i1,_⟩:=gF (m:=200) (lV k5) dc dc
 have K0:Kn wv who [] [] [] 0:=⟨List.Pairwise.nil,⟨Int.le_refl _,Int.le_refl _⟩,fun k p h=>(by cases h),fun k _ _=>rfl⟩
 obtain ⟨m,b,t,T,p,P,s,w,Z,tok,all,r1,B,H,hz,f1,K,ha⟩:=Ch k2.2 k3.1 who at_ _ 0 rfl om (Nat.zero_le _) _ _ _ _ _ _ [] 0 [] B0 H0 rfl rfl K0 (Nat.le_refl _)
 have hs:=H.EI.rel.ri
 have tk:=K.tk
 have hml:=H.ml
 obtain ⟨U,S,_,d1⟩:=DQ B om H om at_
 obtain ⟨p1,_,p3,p4⟩:=d1 who tok tk.1 (by rw [f1]; omega)
 obtain ⟨_,q1,q3,q4⟩:=d1 who 0 om (by rw [f1]; omega)
 obtain ⟨n1,_,_,_⟩:=d1 who (Z.length:Int) om (by rw [f1]; omega)
 rw [f1] at p1 p3 p4 q1 q3 q4 n1
 obtain ⟨G,_,hall⟩:=G3 K hs H.mz
 have hDl:(oY wv who w.fM Z 0 tok).length≤10:=Nat.le_trans C8 om
 have has:=Kl ⟨0+(Z.length:Int),(oY wv who w.fM Z 0 tok).map KF,Bp wv who U Z 0 tok,Bn wv who S Z 0 tok⟩ (by rw [List.length_map]; exact p3) p4.t p4.p
 rw [DO] at has
 have hin:=Dx (D:=oY wv who w.fM Z 0 tok) (tk_:=0+(Z.length:Int)) (TT:=Bp wv who U Z 0 tok) (PP:=Bn wv who S Z 0 tok) om (oY wv who w.fM Z 0 tok) [] all rfl K.ri om
 have e0:(0:Int)+(Z.length:Int)=(Z.length:Int):=om
 rw [e0] at p1 has hin q1 n1
 have lp:∀ c:Cx,pq Z 0 (Z.length:Int) c=false:=fun c=>by
  unfold pq
  rw [decide_eq_false_iff_not]
  intro h; have:=Aq c Z; omega
 have n2:oY wv who w.fM Z 0 (Z.length:Int)=[]:=by unfold oY; rw [List.filter_eq_nil_iff]; intro a _; rw [lp]; simp
 have n3:Bp wv who U Z 0 (Z.length:Int)=[]:=by unfold Bp; rw [List.filter_eq_nil_iff.2 fun a _=>by rw [lp]; simp]; rfl
 have n4:Bn wv who S Z 0 (Z.length:Int)=[]:=by unfold Bn; rw [List.filter_eq_nil_iff.2 fun a _=>by rw [lp]; simp]; rfl
 rw [n2,n3,n4] at n1
 have ew:oY wv who w.fM Z 0 0=w.fM.filter fun m=>BD wv who m.fK:=by
  unfold oY
  refine List.filter_congr fun m hm=>?_
  have hz:=H.mz m hm
  have:pq Z 0 0 (.m m.fK)=true:=by unfold pq; rw [decide_eq_true_iff]; exact ⟨hz,by have:=(yx (Cx.m m.fK) Z).2 hz; omega⟩
  rw [this]; rfl
 have hsame:lY all (oY wv who w.fM Z 0 tok)=oY wv who w.fM Z 0 0:=by
  rw [ew]
  refine HP G.ri (hs.sublist List.filter_sublist) fun k=>?_
  rw [hall,Ek hs]
 have GL:=G.len
 have hq:=IH (lY all (oY wv who w.fM Z 0 tok)) (oY wv who w.fM Z 0 0) om
 rw [dT hsame] at hq
 unfold aF.f
 refine Ev.bind m1 (Ev.bind hst (Ev.cf rfl (Ev.bind (Ev.of v1) (Ev.bind (Ev.of i1) (Ev.bind r1.diag ?_)))))
 simp only [fall]
 exact Ev.bind p1 (Ev.bind has (Ev.bind hin.diag (Ev.bind q1 (Ev.bind n1 (Ev.ct rfl (Ev.ct rfl (Ev.bind hq (Ev.ct rfl (Ev.ct rfl (Ev.ct rfl (Ev.ct rfl (Ev.ct rfl (Ev.bind Gs Ev.pure)))))))))))))
end Go.Proofs.YtfknmdelgepbjaaGreatDoor
