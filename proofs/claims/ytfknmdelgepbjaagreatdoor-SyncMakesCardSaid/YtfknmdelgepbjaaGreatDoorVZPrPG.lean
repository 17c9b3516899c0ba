import Derived.Test.YtfknmdelgepbjaaGreatDoorVZTyPG
set_option linter.all false
set_option maxRecDepth 10000
namespace Go.Proofs.YtfknmdelgepbjaaGreatDoor.Ty
open Go Go.Sp
def keyOf (e:ak):BA:=(e.ab++(⟨#[32]⟩:BA))++e.aj
def J9 (e:ak):dq:=⟨e.aU+e.bW,keyOf e⟩
theorem xU {a b:ak} (ha:mR a) (hb:mR b) (h:keyOf a=keyOf b):same a b:=D1 ha hb h
theorem Cg {a b:ak} (h:same a b):keyOf a=keyOf b:=by unfold keyOf; rw [h.1,h.2]
structure Rel (t:bX) (Z:List (ak×Bool)) (n:Nat):Prop where
 fl:t.fl=Z.map (·.1)
 vP:tI (Z.map (·.1))
 ok:∀ q∈Z,mR q.1
 idx:AZ t.gU
 ord:Ord t.gU.fl
 ln:Z.length≤n
 hn:t.gU.fl.length≤n
 cont:∀ x,x∈t.gU.fl↔∃ q∈Z,q.2=false∧q.1.kl=true∧x=J9 q.1
def j9 (Z:List (ak×Bool)) (e:ak) (p:Nat):List (ak×Bool):=Z.take p++(e,false)::Z.drop (cut (Z.map (·.1)) e p)
theorem rS:Rel ⟨[],⟨[],[]⟩⟩ [] 0:=⟨rfl,fun i j _ h=>by simp at h,fun q hq=>(by cases hq),CK,CH,Nat.le_refl _,Nat.le_refl _,fun x=>sM⟩
theorem nL {Z:List (ak×Bool)} {e:ak} {p:Nat}:(j9 Z e p).map (·.1)=(Z.map (·.1)).take p++e::(Z.map (·.1)).drop (cut (Z.map (·.1)) e p):=by
 simp [j9,List.map_take,List.map_drop]
theorem sS {Z:List (ak×Bool)} {e:ak} {p:Nat}:(j9 Z e p).map (·.2)=(Z.map (·.2)).take p++false::(Z.map (·.2)).drop (cut (Z.map (·.1)) e p):=by
 simp [j9,List.map_take,List.map_drop]
theorem pR {t:bX} {Z:List (ak×Bool)} {n p:Nat} {e:ak} {h':aP} (R:Rel t Z n) (he:mR e) (hp:At (Z.map (·.1)) e p) (hi:AZ h') (hor:Ord h'.fl) (hl:h'.fl.length≤n+1) (hc:∀ x,x∈h'.fl↔(e.kl=true∧x=J9 e)∨(x∈t.gU.fl∧x.dw≠keyOf e)):
  Rel ⟨(j9 Z e p).map (·.1),h'⟩ (j9 Z e p) (n+1):=by
 have hcut:=u7 hp
 rw [List.length_map] at hcut
 have hg:∀ m,(Z.map (·.1)).getD m default=(Z.getD m default).1:=fun m=>by
  simp only [gD,List.getElem?_map]
  cases Z[m]? <;> rfl
 refine ⟨rfl,?_,fun q hq=>?_,hi,hor,?_,hl,fun x=>?_⟩
 ·rw [nL]; exact R.vP.ins hp
 ·unfold j9 at hq
  rcases List.mem_append.1 hq with hq | hq
  ·exact R.ok q (List.mem_of_mem_take hq)
  ·rcases List.mem_cons.1 hq with rfl | hq
   ·exact he
   ·exact R.ok q (List.mem_of_mem_drop hq)
 ·unfold j9
  have:=R.ln
  simp only [List.length_append,List.length_take,List.length_cons,List.length_drop]; omega
 ·rw [hc,R.cont]
  unfold j9
  constructor
  ·rintro (⟨h1,h2⟩ | ⟨⟨q,q1,q2,q3,q4⟩,h2⟩)
   ·exact ⟨(e,false),List.mem_append_right _ (List.mem_cons_self ..),rfl,h1,h2⟩
   ·refine ⟨q,?_,q2,q3,q4⟩
    obtain ⟨m,m1,rfl⟩:=o3 default q1
    rcases Nat.lt_or_ge m p with h | h
    ·refine List.mem_append_left _ ?_
     rw [List.mem_iff_getElem]
     exact ⟨m,by rw [List.length_take]; omega,by rw [List.getElem_take,gD,gE m1]; rfl⟩
    ·refine List.mem_append_right _ (List.mem_cons_of_mem _ ?_)
     have hcm:cut (Z.map (·.1)) e p≤m:=by
      unfold cut
      split
      ·rename_i hh
       rcases Nat.lt_or_ge p m with h3 | h3
       ·exact h3
       ·obtain rfl:m=p:=om
        rw [hg] at hh
        exact absurd (by rw [q4]; exact Cg hh.2) h2
      ·exact h
     rw [List.mem_iff_getElem]
     refine ⟨m-cut (Z.map (·.1)) e p,by rw [List.length_drop]; omega,?_⟩
     rw [List.getElem_drop,gD,gE m1]
     simp only [Option.getD_some]
     congr 1; omega
  ·rintro ⟨q,q1,q2,q3,q4⟩
   rcases List.mem_append.1 q1 with q1 | q1
   ·obtain ⟨m,m1,m2,rfl⟩:=rW (d:=default) q1
    refine .inr ⟨⟨_,eR m2,q2,q3,q4⟩,fun h=>?_⟩
    rw [q4] at h
    have:=xU (R.ok _ (eR m2)) he h
    exact cX (hp.lo m m1) (by rw [hg]; exact this)
   ·rcases List.mem_cons.1 q1 with rfl | q1
    ·exact .inl ⟨q3,q4⟩
    ·obtain ⟨m,m1,m2,rfl⟩:=oJ (d:=default) q1
     refine .inr ⟨⟨_,eR m2,q2,q3,q4⟩,fun h=>?_⟩
     rw [q4] at h
     have:=xU (R.ok _ (eR m2)) he h
     have h3:=hp.gt R.vP m m1 (by rw [List.length_map]; exact m2)
     rw [hg] at h3
     exact cX h3 ⟨this.1.symm,this.2.symm⟩
theorem qz {a b:ak} (ha:mR a) (hb:mR b) (h:same b a):Ev (fun k=>j4.f k a b) (decide (0<og a b)):=by
 unfold j4.f pV.f
 refine Ev.bind Ev.pure (Ev.bind Ev.pure (Ev.ct (dT ?_) (Ev.bind (Ff ha.sm hb.sm) Ev.pure)))
 rw [ha.kind,hb.kind,ha.kA,hb.kA,ha.tV,hb.tV,h.1,h.2]
theorem B9 {e:ak} (h:mR e):e.ab.size+(⟨#[32]⟩:BA).size≤9223372036854775807∧(e.ab++(⟨#[32]⟩:BA)).size+e.aj.size≤9223372036854775807:=by
 have h1:=h.sm.room
 have h2:=h.sm.user
 rw [ByteArray.size_append,show (⟨#[32]⟩:BA).size=1 from rfl]
 omega
theorem vV {t:bX} {Z:List (ak×Bool)} {n:Nat} {e:ak} (R:Rel t Z n) (hn:n≤1000) (he:mR e):∃ p,At (Z.map (·.1)) e p∧
  Ev (fun k=>cT.f k ⟨Z.map (·.1),Z.map (·.2)⟩ e) (if tG (Z.map (·.1)) e p then (⟨Z.map (·.1),Z.map (·.2)⟩,false,0) else (⟨(j9 Z e p).map (·.1),(j9 Z e p).map (·.2)⟩,true,0))∧
  ∃ t',Ev (fun k=>fJ.f k t e) (!tG (Z.map (·.1)) e p,0,t')∧Rel t' (if tG (Z.map (·.1)) e p then Z else j9 Z e p) (n+1):=by
 obtain ⟨p,hp,hev⟩:=AV (l:=Z.map (·.1)) (by rw [List.length_map]; have:=R.ln; omega) R.vP e t.gU
 refine ⟨p,hp,?_,?_⟩
 ·have:=tD (T:=Z.map (·.2)) he (fun x hx=>by obtain ⟨q,hq,rfl⟩:=List.mem_map.1 hx; exact R.ok q hq) R.vP sM (by rw [List.length_map]; have:=R.ln; omega) hp
  rw [nL,sS]
  exact this
 ·obtain ⟨fl,gU⟩:=t
  obtain ⟨r1,r2,r3,r4,ro,r5,r6,r7⟩:=R
  simp only at r1 r4 ro r6 r7 hev
  subst r1
  have hlen:(Z.map (·.1)).length≤n:=by rw [List.length_map]; exact r5
  generalize hL:Z.map (·.1)=L at *
  have hk:(e.aI != 2)=false:=by rw [he.kind]; rfl
  have tail:tG L e p=false→∀ (fl':List ak),fl'=(j9 Z e p).map (·.1)→∃ t',Ev (fun k=>an (e.ab.size+(⟨#[32]⟩:BA).size≤9223372036854775807) (an ((e.ab++(⟨#[32]⟩:BA)).size+e.aj.size≤9223372036854775807) ((dt.f k gU ((e.ab++(⟨#[32]⟩:BA))++e.aj)).bind fun t809=>cond e.kl ((jB.f e).bind fun t812=>(eW.f k t809.2 t812 ((e.ab++(⟨#[32]⟩:BA))++e.aj)).bind fun t814=>some (true,(0:Int),(⟨fl',t814⟩:bX))) (some (true,0,(⟨fl',t809.2⟩:bX)))))) (true,0,t')∧Rel t' (j9 Z e p) (n+1):=by
   intro _ fl' hfl
   obtain ⟨h1,d1,d2,d3,d4,d5⟩:=yo r4 ro om (keyOf e)
   have hs:=B9 he
   have R0:Rel ⟨L,gU⟩ Z n:=⟨hL.symm,by rw [hL]; exact r2,r3,r4,ro,r5,r6,r7⟩
   cases ho:e.kl with
   | true=>
    obtain ⟨h2,u1,u2,u3,u4,u5⟩:=G4 d2 d5 om (e.aU+e.bW) (keyOf e)
    have hw:av (e.aU+e.bW)=e.aU+e.bW:=by have a:=he.tick; have b:=he.AX ho; rw [aG om om]
    have hend:jB.f e=some (e.aU+e.bW):=by unfold jB.f; rw [hw]
    refine ⟨⟨fl',h2⟩,Ev.an hs.1 (Ev.an hs.2 (Ev.bind d1 (Ev.ct rfl (Ev.bind (Ev.of hend) (Ev.bind u1 Ev.pure))))),?_⟩
    rw [hfl]
    refine pR R0 he (by rw [hL]; exact hp) u2 u5 ?_ (fun x=>?_)
    ·have:(mget h1.iU (keyOf e))=none:=by
      cases hm:mget h1.iU (keyOf e) with
      | none=>rfl
      | some v=>obtain ⟨i,_,hi,hk⟩:=d2.bw _ _ hm; exact absurd hk ((d4 _).1 (eR hi)).2
     rw [this] at u3
     simp at u3
     omega
    ·rw [u4,d4]
     constructor
     ·rintro (rfl | ⟨⟨a,_⟩,b⟩)
      ·exact .inl ⟨ho,rfl⟩
      ·exact .inr ⟨a,b⟩
     ·rintro (⟨_,rfl⟩ | ⟨a,b⟩)
      ·exact .inl rfl
      ·exact .inr ⟨⟨a,b⟩,b⟩
   | false=>
    refine ⟨⟨fl',h1⟩,Ev.an hs.1 (Ev.an hs.2 (Ev.bind d1 (Ev.cf rfl Ev.pure))),?_⟩
    rw [hfl]
    refine pR R0 he (by rw [hL]; exact hp) d2 d5 (by show h1.fl.length≤_; omega) (fun x=>?_)
    rw [d4]
    constructor
    ·rintro ⟨a,b⟩; exact .inr ⟨a,b⟩
    ·rintro (⟨a,_⟩ | ⟨a,b⟩)
     ·rw [ho] at a; cases a
     ·exact ⟨a,b⟩
  have hmap:(j9 Z e p).map (·.1)=L.take p++e::L.drop (cut L e p):=by rw [nL,hL]
  unfold fJ.f
  dsimp only
  by_cases hh:p<L.length∧same (L.getD p default) e
  ·have hcut:cut L e p=p+1:=if_pos hh
   have hx:mR (L.getD p default):=by
    obtain ⟨q,hq,e1⟩:=List.mem_map.1 (by rw [hL]; exact eR (d:=default) hh.1:L.getD p default∈Z.map (·.1))
    rw [← e1]; exact r3 q hq
   have hhas:(decide (p<L.length)&&decide (same (L.getD p default) e))=true:=by rw [dT hh.1,dT hh.2]; rfl
   rw [hhas] at hev
   by_cases heq:L.getD p default=e
   ·have ho:tG L e p=true:=dT ⟨hh.1,hh.2,by rw [heq,DZ]; exact Int.le_refl _⟩
    rw [ho]
    show ∃ t',Ev _ (false,0,t')∧Rel t' Z (n+1)
    refine ⟨⟨L,gU⟩,Ev.cf hk (Ev.bind (mb he) (Ev.cf rfl (Ev.bind hev (Ev.bind (a:=(.inr (false,0,⟨L,gU⟩):(Bool×Bool×Bool×bX) ⊕ (Bool×Int×bX))) (Ev.ct rfl (Ev.an ⟨om,by have:=hh.1; omega⟩ (Ev.ct ?_ Ev.pure))) Ev.pure)))),?_⟩
    ·rw [Int.toNat_natCast]; exact dT heq
    ·exact ⟨hL.symm,by rw [hL]; exact r2,r3,r4,ro,om,by show gU.fl.length≤_; omega,r7⟩
   ·by_cases hc:og e (L.getD p default)≤0
    ·have ho:tG L e p=true:=dT ⟨hh.1,hh.2,hc⟩
     rw [ho]
     show ∃ t',Ev _ (false,0,t')∧Rel t' Z (n+1)
     refine ⟨⟨L,gU⟩,Ev.cf hk (Ev.bind (mb he) (Ev.cf rfl (Ev.bind hev (Ev.bind (a:=(.inr (false,0,⟨L,gU⟩):(Bool×Bool×Bool×bX) ⊕ (Bool×Int×bX))) (Ev.ct rfl (Ev.an ⟨om,by have:=hh.1; omega⟩ (Ev.cf ?_ (Ev.an ⟨om,by have:=hh.1; omega⟩ (Ev.bind (qz he hx hh.2) (Ev.ct ?_ Ev.pure)))))) Ev.pure)))),?_⟩
     ·rw [Int.toNat_natCast]; exact dF heq
     ·show (!decide (0<og e (L.getD p default)))=_; rw [dF om]; rfl
     ·exact ⟨hL.symm,by rw [hL]; exact r2,r3,r4,ro,om,by show gU.fl.length≤_; omega,r7⟩
    ·have ho:tG L e p=false:=dF (fun h=>hc h.2.2)
     obtain ⟨t',k1,k2⟩:=tail ho (L.set p e) (by rw [hmap,hcut,List.set_eq_take_append_cons_drop,if_pos hh.1])
     rw [ho]
     show ∃ t',Ev _ (true,0,t')∧Rel t' (j9 Z e p) (n+1)
     refine ⟨t',Ev.cf hk (Ev.bind (mb he) (Ev.cf rfl (Ev.bind hev (Ev.bind (a:=(.inl (true,!decide (0<og e (L.getD p default)),true,⟨L.set p e,gU⟩):(Bool×Bool×Bool×bX) ⊕ (Bool×Int×bX))) (Ev.ct rfl (Ev.an ⟨om,by have:=hh.1; omega⟩ (Ev.cf ?_ (Ev.an ⟨om,by have:=hh.1; omega⟩ (Ev.bind (qz he hx hh.2) (Ev.cf ?_ (Ev.an ⟨om,by have:=hh.1; omega⟩ ?_))))))) k1)))),k2⟩
     ·rw [Int.toNat_natCast]; exact dF heq
     ·show (!decide (0<og e (L.getD p default)))=_; rw [dT om]; rfl
     ·rw [Int.toNat_natCast]; exact Ev.pure
  ·have hcut:cut L e p=p:=if_neg hh
   have ho:tG L e p=false:=dF (fun h=>hh ⟨h.1,h.2.1⟩)
   have hhas:(decide (p<L.length)&&decide (same (L.getD p default) e))=false:=by
    rw [Bool.and_eq_false_iff]
    by_cases h:p<L.length
    ·exact .inr (dF fun h2=>hh ⟨h,h2⟩)
    ·exact .inl (dF h)
   rw [hhas] at hev
   obtain ⟨t',k1,k2⟩:=tail ho (L.take p++[e]++L.drop p) (by rw [hmap,hcut]; simp)
   have hins:da.f L (p:Int) [e]=some (L.take p++[e]++L.drop p):=by
    unfold da.f
    have h1:=hp.le
    simp only [an,Int.toNat_natCast,List.length_singleton]
    rw [if_pos ⟨om,om,om,om,om⟩]
   rw [ho]
   show ∃ t',Ev _ (true,0,t')∧Rel t' (j9 Z e p) (n+1)
   exact ⟨t',Ev.cf hk (Ev.bind (mb he) (Ev.cf rfl (Ev.bind hev (Ev.bind (a:=(.inl (false,false,false,⟨L.take p++[e]++L.drop p,gU⟩):(Bool×Bool×Bool×bX) ⊕ (Bool×Int×bX))) (Ev.cf rfl (Ev.bind (Ev.of hins) Ev.pure)) k1)))),k2⟩
section
variable {L:List ak} {T:List Bool} {room user:BA} {at_:Int}
theorem xp {m:Nat} (hb:L.length≤100000) (hm:m<L.length) (hs:¬ ((L.getD m default).ab=room∧(L.getD m default).aj=user)) {v} (G:El (fun k j=>cO.l0 k ⟨L,T⟩ room user at_ j ((m+1:Nat):Int)) v):El (fun k j=>cO.l0 k ⟨L,T⟩ room user at_ j (m:Int)) v:=by
 refine El.step (fun _ _=>by rw [cO.l0]) ?_
 simp only [oc (show m≤1000000 by omega),jt]
 refine El.ct (dT om) (El.an ⟨om,om⟩ ?_)
 by_cases hr:(L.getD m default).ab=room
 ·exact El.ct (dT hr) (El.an ⟨om,om⟩ (El.cf (dF fun h=>hs ⟨hr,h⟩) G))
 ·exact El.cf (dF hr) G
theorem qY {p:Nat} (hb:L.length≤100000) (hp:p≤L.length) (hs:∀ m,m<p→¬ ((L.getD m default).ab=room∧(L.getD m default).aj=user)) {v} (G:El (fun k j=>cO.l0 k ⟨L,T⟩ room user at_ j (p:Int)) v):∀ d m,p-m≤d→m≤p→El (fun k j=>cO.l0 k ⟨L,T⟩ room user at_ j (m:Int)) v:=by
 intro d
 induction d with
 | zero=>
      intro m hd hm; obtain rfl:m=p:=om
      exact G
 | succ d ih=>
  intro m hd hm
  by_cases hlt:m<p
  ·exact xp hb om (hs m hlt) (ih (m+1) om om)
  ·obtain rfl:m=p:=om
   exact G
def Hm (L:List ak) (room user:BA) (at_:Int) (b:Bool):Prop:=(∃ x,x∈L∧x.ab=room∧x.aj=user∧b=(x.kl&&decide (at_<av (x.aU+x.bW))))∨((∀ x,x∈L→¬ (x.ab=room∧x.aj=user))∧b=false)
theorem Ea {h:aP} (hb:L.length≤100000) (hs:tI L) (room user:BA) (at_:Int):∃ b,Hm L room user at_ b∧Ev (fun k=>eM.f k ⟨L,h⟩ room user at_) b∧Ev (fun k=>cO.f k ⟨L,T⟩ room user at_) b:=by
 obtain ⟨p,hp,hev⟩:=AV (l:=L) om hs (⟨0,room,user,⟨#[]⟩,⟨#[]⟩,false,false,0,0,0,0⟩:ak) h
 have hlo:∀ m,m<p→¬ ((L.getD m default).ab=room∧(L.getD m default).aj=user):=fun m hm h=>cX (hp.lo m hm) h
 have up:∀ {v},El (fun k j=>cO.l0 k ⟨L,T⟩ room user at_ j (p:Int)) v→El (fun k j=>cO.l0 k ⟨L,T⟩ room user at_ j 0) v:=fun G=>qY hb hp.le hlo G p 0 om om
 unfold eM.f cO.f
 dsimp only
 by_cases hh:p<L.length∧same (L.getD p default) (⟨0,room,user,⟨#[]⟩,⟨#[]⟩,false,false,0,0,0,0⟩:ak)
 ·have hhas:(decide (p<L.length)&&decide (same (L.getD p default) (⟨0,room,user,⟨#[]⟩,⟨#[]⟩,false,false,0,0,0,0⟩:ak)))=true:=by rw [dT hh.1,dT hh.2]; rfl
  rw [hhas] at hev
  have h1:=hh.1
  have hr:(L.getD p default).ab=room:=hh.2.1
  have hu:(L.getD p default).aj=user:=hh.2.2
  cases ho:(L.getD p default).kl with
  | true=>
   have G:El (fun k j=>cO.l0 k ⟨L,T⟩ room user at_ j (p:Int)) (.inr (decide (at_<av ((L.getD p default).aU+(L.getD p default).bW)))):=by
    refine El.step (fun _ _=>by rw [cO.l0]) ?_
    simp only [jt]
    exact El.ct (dT om) (El.an ⟨om,om⟩ (El.ct (dT hr) (El.an ⟨om,om⟩ (El.ct (dT hu) (El.an ⟨om,om⟩ (El.ct ho (El.an ⟨om,om⟩ (El.an ⟨om,om⟩ El.pure))))))))
   refine ⟨_,.inl ⟨L.getD p default,eR h1,hr,hu,by rw [ho]; rfl⟩,Ev.bind hev (Ev.ct rfl (Ev.an ⟨om,by show (p:Int)<_; omega⟩ (Ev.ct ?_ (Ev.an ⟨om,by show (p:Int)<_; omega⟩ (Ev.bind (Ev.of rfl) Ev.pure))))),Ev.bind (up G).diag Ev.pure⟩
   show (L.getD (p:Int).toNat default).kl=true
   rw [Int.toNat_natCast]; exact ho
  | false=>
   have G:El (fun k j=>cO.l0 k ⟨L,T⟩ room user at_ j (p:Int)) (.inr false):=by
    refine El.step (fun _ _=>by rw [cO.l0]) ?_
    simp only [jt]
    exact El.ct (dT om) (El.an ⟨om,om⟩ (El.ct (dT hr) (El.an ⟨om,om⟩ (El.ct (dT hu) (El.an ⟨om,om⟩ (El.cf ho El.pure))))))
   refine ⟨false,.inl ⟨L.getD p default,eR h1,hr,hu,by rw [ho]; rfl⟩,Ev.bind hev (Ev.ct rfl (Ev.an ⟨om,by show (p:Int)<_; omega⟩ (Ev.cf ?_ Ev.pure))),Ev.bind (up G).diag Ev.pure⟩
   show (L.getD (p:Int).toNat default).kl=false
   rw [Int.toNat_natCast]; exact ho
 ·have hhas:(decide (p<L.length)&&decide (same (L.getD p default) (⟨0,room,user,⟨#[]⟩,⟨#[]⟩,false,false,0,0,0,0⟩:ak)))=false:=by
   rw [Bool.and_eq_false_iff]
   by_cases h:p<L.length
   ·exact .inr (dF fun h2=>hh ⟨h,h2⟩)
   ·exact .inl (dF h)
  rw [hhas] at hev
  have hcut:cut L (⟨0,room,user,⟨#[]⟩,⟨#[]⟩,false,false,0,0,0,0⟩:ak) p=p:=if_neg hh
  have hgt:=hp.gt hs
  rw [hcut] at hgt
  have G:El (fun k j=>cO.l0 k ⟨L,T⟩ room user at_ j (L.length:Int)) (.inl ((L.length:Int),false)):=by
   refine El.step (fun _ _=>by rw [cO.l0]) ?_
   have:¬ ((L.length:Int)<(L.length:Int)):=om
   dsimp only
   rw [dF this]
   exact El.cf rfl El.pure
  have hno:∀ m,m<L.length→¬ ((L.getD m default).ab=room∧(L.getD m default).aj=user):=fun m hm h=>by
   rcases Nat.lt_or_ge m p with h1 | h1
   ·exact hlo m h1 h
   ·exact cX (hgt m h1 hm) ⟨h.1.symm,h.2.symm⟩
  have G2:=qY (T:=T) (at_:=at_) hb (Nat.le_refl _) hno G L.length 0 om om
  exact ⟨false,.inr ⟨fun x hx h=>(by obtain ⟨m,m1,rfl⟩:=o3 default hx; exact hno m m1 h),rfl⟩,Ev.bind hev (Ev.cf rfl Ev.pure),Ev.bind G2.diag Ev.pure⟩
theorem Bu {h:aP} (hb:L.length≤100000) (hs:tI L) (room user:BA) (at_:Int):∃ b,Ev (fun k=>eM.f k ⟨L,h⟩ room user at_) b∧Ev (fun k=>cO.f k ⟨L,T⟩ room user at_) b:=by
 obtain ⟨b,_,h1,h2⟩:=Ea (T:=T) (h:=h) hb hs room user at_
 exact ⟨b,h1,h2⟩
theorem By {h:aP} (hb:L.length≤100000) (hs:tI L) (room:BA) (at_:Int):∀ (d m:Nat) (us:List BA),L.length-m≤d→m≤L.length→us.length≤m→
  ∃ vs,vs.length≤L.length∧El (fun k j=>aT.l0 k ⟨L,h⟩ room at_ j (m:Int) us) ((L.length:Int),false,vs)∧El (fun k j=>dx.l0 k ⟨L,T⟩ room at_ j (m:Int) us) ((L.length:Int),false,vs):=by
 intro d
 induction d with
 | zero=>
  intro m us hd hm hus
  obtain rfl:m=L.length:=om
  have:¬ ((L.length:Int)<(L.length:Int)):=om
  refine ⟨us,hus,?_,?_⟩
  ·refine El.step (fun _ _=>by rw [aT.l0]) ?_
   dsimp only
   rw [dF this]
   exact El.cf rfl El.pure
  ·refine El.step (fun _ _=>by rw [dx.l0]) ?_
   dsimp only
   rw [dF this]
   exact El.cf rfl El.pure
 | succ d ih=>
  intro m us hd hm hus
  by_cases hlt:m<L.length
  ·obtain ⟨b,b1,b2⟩:=Bu (T:=T) (h:=h) hb hs room (L.getD m default).aj at_
   by_cases hr:(L.getD m default).ab=room
   ·cases b with
    | true=>
     obtain ⟨vs,v0,v1,v2⟩:=ih (m+1) (us++[(L.getD m default).aj]) om om (by simp; omega)
     refine ⟨vs,v0,?_,?_⟩
     ·refine El.step (fun _ _=>by rw [aT.l0]) ?_
      simp only [oc (show m≤1000000 by omega),Int.toNat_natCast]
      exact El.ct (dT om) (El.an ⟨om,om⟩ (El.ct (dT hr) (El.bind b1.el (El.ct rfl (El.an ⟨by simp; omega,by simp; omega⟩ v1)))))
     ·refine El.step (fun _ _=>by rw [dx.l0]) ?_
      simp only [oc (show m≤1000000 by omega),jt]
      exact El.ct (dT om) (El.an ⟨om,om⟩ (El.bind b2.el (El.an ⟨om,om⟩ (El.ct (dT hr) (El.ct rfl (El.an ⟨om,om⟩ (El.an ⟨by simp; omega,by simp; omega⟩ v2)))))))
    | false=>
     obtain ⟨vs,v0,v1,v2⟩:=ih (m+1) us om om om
     refine ⟨vs,v0,?_,?_⟩
     ·refine El.step (fun _ _=>by rw [aT.l0]) ?_
      simp only [oc (show m≤1000000 by omega),Int.toNat_natCast]
      exact El.ct (dT om) (El.an ⟨om,om⟩ (El.ct (dT hr) (El.bind b1.el (El.cf rfl v1))))
     ·refine El.step (fun _ _=>by rw [dx.l0]) ?_
      simp only [oc (show m≤1000000 by omega),jt]
      exact El.ct (dT om) (El.an ⟨om,om⟩ (El.bind b2.el (El.an ⟨om,om⟩ (El.ct (dT hr) (El.cf rfl v2)))))
   ·obtain ⟨vs,v0,v1,v2⟩:=ih (m+1) us om om om
    refine ⟨vs,v0,?_,?_⟩
    ·refine El.step (fun _ _=>by rw [aT.l0]) ?_
     simp only [oc (show m≤1000000 by omega),Int.toNat_natCast]
     exact El.ct (dT om) (El.an ⟨om,om⟩ (El.cf (dF hr) v1))
    ·refine El.step (fun _ _=>by rw [dx.l0]) ?_
     simp only [oc (show m≤1000000 by omega),jt]
     exact El.ct (dT om) (El.an ⟨om,om⟩ (El.bind b2.el (El.an ⟨om,om⟩ (El.cf (dF hr) v2))))
  ·exact ih m us om hm hus
theorem BB {h:aP} (hb:L.length≤100000) (hs:tI L) (room:BA) (at_:Int):∃ vs,vs.length≤L.length∧Ev (fun k=>aT.f k ⟨L,h⟩ room at_) vs∧Ev (fun k=>dx.f k ⟨L,T⟩ room at_) vs:=by
 obtain ⟨vs,v0,v1,v2⟩:=By (T:=T) (h:=h) hb hs room at_ L.length 0 [] om om sM
 exact ⟨vs,v0,Ev.bind v1.diag Ev.pure,Ev.bind v2.diag Ev.pure⟩
end
theorem u9 {t:bX} {Z:List (ak×Bool)} {n:Nat} {e:ak} (R:Rel t Z n) (hn:n≤1000) (he:mR e):∃ Z' b t',Ev (fun k=>cT.f k ⟨Z.map (·.1),Z.map (·.2)⟩ e) (⟨Z'.map (·.1),Z'.map (·.2)⟩,b,0)∧Ev (fun k=>fJ.f k t e) (b,0,t')∧Rel t' Z' (n+1):=by
 obtain ⟨p,hp,h1,t',h2,h3⟩:=vV R hn he
 cases ho:tG (Z.map (·.1)) e p with
 | true=>rw [ho] at h1 h2 h3; exact ⟨Z,false,t',h1,h2,h3⟩
 | false=>rw [ho] at h1 h2 h3; exact ⟨j9 Z e p,true,t',h1,h2,h3⟩
theorem nS {t:bX} {Z:List (ak×Bool)} {n m:Nat} (R:Rel t Z n) (h:n≤m):Rel t Z m:=⟨R.fl,R.vP,R.ok,R.idx,R.ord,by have:=R.ln; omega,by have:=R.hn; omega,R.cont⟩
theorem B4:nT.f=some ⟨[],⟨[],[]⟩⟩:=rfl
section
variable {L:List ak} {e:ak} {p:Nat}
end
end Go.Proofs.YtfknmdelgepbjaaGreatDoor.Ty
set_option linter.all false
set_option maxRecDepth 10000
namespace Go.Proofs.YtfknmdelgepbjaaGreatDoor.Pr
open Go Go.Sp
structure mR (e:ak):Prop where
 ge:GE e
 kind:e.aI=3
section
variable {e:ak} (h:mR e)
include h
theorem mR.n1:e.aI≠1:=by rw [h.kind]; decide
theorem mR.room:e.ab=⟨#[]⟩:=h.ge.Dq h.kind
theorem mR.kA:e.ae=⟨#[]⟩:=h.ge.qV h.n1
theorem mR.tV:e.aq=false:=h.ge.tV h.n1
theorem mR.state:0≤e.aQ∧e.aQ<3:=by have:=h.ge.state; omega
theorem mR.tick:0≤e.aU∧e.aU≤1099511627776:=by have:=h.ge.tick; omega
theorem mR.rX:0≤e.aZ∧e.aZ≤1099511627776:=by have:=h.ge.rX; omega
theorem mR.EY:Br e=true:=by rw [h.ge.may,h.tV]; rfl
theorem yp:Ev (fun k=>mv.f k e) true:=by
 have:=(Proofs.YtfknmdelgepbjaaGreatDoor.mb h.ge.zz).2
 rwa [h.EY] at this
theorem mb:Ev (fun k=>mw.f k e) true:=by
 have:=(Proofs.YtfknmdelgepbjaaGreatDoor.mb h.ge.zz).1
 rwa [h.EY] at this
theorem mR.sm:Sm e:=by
 have z:=h.ge.Kh
 have c:=h.state
 exact ⟨by rw [h.kind]; decide,om,om,om,om,by rw [h.ge.zT (h.ge.on (by rw [h.kind]; decide))]; decide,om,h.tick,h.rX⟩
end
end Go.Proofs.YtfknmdelgepbjaaGreatDoor.Pr
set_option linter.all false
set_option maxRecDepth 10000
namespace Go.Proofs.YtfknmdelgepbjaaGreatDoor.Pr
open Go Go.Sp
def mQ (a b:ak):Int:=kc a.aj b.aj
def same (a b:ak):Prop:=a.aj=b.aj∧a.aj=b.aj
instance sameD (a b:ak):Decidable (same a b):=inferInstanceAs (Decidable (_∧_))
def km (a b:ak):Bool:=dK a.aj b.aj
theorem n0 {a b:ak}:mQ a b=0↔same a b:=by unfold mQ same; rw [jM]; simp
theorem jQ {a b:ak}:mQ a b<0↔km a b=true:=nq
theorem qQ {a b:ak}:0<mQ a b↔km b a=true:=rI
theorem me {a b c:ak} (h:km a b=true) (k:km b c=true):km a c=true:=mj h k
theorem sC {a b:ak} (h:km a b=true):km b a=false:=qI h
theorem cX {a b:ak} (h:km a b=true):¬ same a b:=fun k=>BU h k.1
theorem qB {a b c:ak} (h:same a b):km a c=km b c:=by unfold km; rw [h.1]
theorem DR (a:ak) (u:BA):dG.f a u=some (kc a.aj u):=by
 unfold dG.f; rw [uX]; rfl
section
variable {l:List ak} {e:BA} {c:ak→Int} {g:Nat→ak→BA→Option Int}
theorem qE (hg:∀ x,Ev (fun k=>g k x e) (c x)) (hl:l.length≤1000000) (hs:∀ i j,i<j→j<l.length→c (l.getD j default)<0→c (l.getD i default)<0):∀ d i j:Nat,j-i≤d→i≤j→j≤l.length→(∀ m,m<i→c (l.getD m default)<0)→(∀ m,j≤m→m<l.length→0≤c (l.getD m default))→
  ∃ p:Nat,p≤l.length∧(∀ m,m<p→c (l.getD m default)<0)∧(∀ m,p≤m→m<l.length→0≤c (l.getD m default))∧El (fun k q=>ax.l0 k l e (g k) q (i:Int) (j:Int)) ((p:Int),(p:Int),false):=by
 intro d
 induction d with
 | zero=>
  intro i j hd hij hj h1 h2
  obtain rfl:i=j:=om
  refine ⟨i,hj,h1,h2,?_⟩
  refine El.step (fun _ _=>by rw [ax.l0]) ?_
  have:¬ ((i:Int)<(i:Int)):=om
  rw [dF this]
  exact El.cf rfl El.pure
 | succ d ih=>
  intro i j hd hij hj h1 h2
  by_cases hlt:i<j
  ·have hm:av ((IntKind.u64.wrap (av ((i:Int)+(j:Int)))).fdiv 2)=(((i+j)/2:Nat):Int):=by rw [E1 om om om]; omega
   have hw:av ((((i+j)/2:Nat):Int)+1)=(((i+j)/2+1:Nat):Int):=by rw [aG om om]; omega
   by_cases hc:c (l.getD ((i+j)/2) default)<0
   ·obtain ⟨p,k1,k2,k3,k4⟩:=ih ((i+j)/2+1) j om om hj (fun m hm=>by
     rcases Nat.lt_or_ge m ((i+j)/2) with h | h
     ·exact hs m _ h om hc
     ·obtain rfl:m=(i+j)/2:=om
      exact hc) h2
    refine ⟨p,k1,k2,k3,?_⟩
    refine El.step (fun _ _=>by rw [ax.l0]) ?_
    simp only [hm,hw]
    refine El.ct (by simpa using hlt) (El.an ⟨om,om⟩ (El.bind (a:=c (l.getD ((i+j)/2) default)) ?_ (El.ct (by simpa using hc) k4)))
    rw [jt]
    exact (hg _).el
   ·obtain ⟨p,k1,k2,k3,k4⟩:=ih i ((i+j)/2) om om om h1 (fun m hm1 hm2=>by
     rcases Nat.lt_or_ge ((i+j)/2) m with h | h
     ·by_cases hcm:c (l.getD m default)<0
      ·exact absurd (hs _ m h hm2 hcm) hc
      ·omega
     ·obtain rfl:m=(i+j)/2:=om
      omega)
    refine ⟨p,k1,k2,k3,?_⟩
    refine El.step (fun _ _=>by rw [ax.l0]) ?_
    simp only [hm,hw]
    refine El.ct (by simpa using hlt) (El.an ⟨om,om⟩ (El.bind (a:=c (l.getD ((i+j)/2) default)) ?_ (El.cf (by simpa using hc) k4)))
    rw [jt]
    exact (hg _).el
  ·exact ih i j om hij hj h1 h2
theorem sN (hg:∀ x,Ev (fun k=>g k x e) (c x)) (hl:l.length≤1000000) (hs:∀ i j,i<j→j<l.length→c (l.getD j default)<0→c (l.getD i default)<0):
  ∃ p:Nat,p≤l.length∧(∀ m,m<p→c (l.getD m default)<0)∧(∀ m,p≤m→m<l.length→0≤c (l.getD m default))∧Ev (fun k=>ax.f k l e (g k)) ((p:Int),decide (p<l.length)&&(c (l.getD p default)==0)):=by
 obtain ⟨p,k1,k2,k3,k4⟩:=qE hg hl hs l.length 0 l.length om om (Nat.le_refl _) (fun m hm=>om) (fun m h1 h2=>om)
 refine ⟨p,k1,k2,k3,?_⟩
 unfold ax.f
 refine Ev.bind k4.diag ?_
 by_cases hp:p<l.length
 ·rw [dT hp]
  refine Ev.ct (by simpa using hp) (Ev.an ⟨om,by show (p:Int)<_; omega⟩ (Ev.bind (a:=c (l.getD p default)) ?_ ?_))
  ·rw [jt]; exact hg _
  ·rw [Bool.true_and]; exact Ev.pure
 ·rw [dF hp,Bool.false_and]
  exact Ev.cf (by simpa using hp) Ev.pure
end
def tI (l:List ak):Prop:=∀ i j,i<j→j<l.length→km (l.getD i default) (l.getD j default)=true
structure At (l:List ak) (e:ak) (p:Nat):Prop where
 le:p≤l.length
 lo:∀ m,m<p→km (l.getD m default) e=true
 hi:∀ m,p≤m→m<l.length→km (l.getD m default) e=false
def cut (L:List ak) (e:ak) (p:Nat):Nat:=if p<L.length∧same (L.getD p default) e then p+1 else p
def tG (L:List ak) (e:ak) (p:Nat):Bool:=decide (p<L.length∧same (L.getD p default) e∧og e (L.getD p default)≤0)
theorem uD {l:List ak}:tI l↔l.Pairwise (fun a b=>km a b=true):=by
 rw [List.pairwise_iff_getElem]
 constructor
 ·intro h i j hi hj hij
  have:=h i j hij hj
  rw [gD,gD,gE hi,gE hj] at this
  exact this
 ·intro h i j hij hj
  rw [gD,gD,gE (by omega:i<l.length),gE hj]
  exact h i j om hj hij
section
variable {L:List ak} {e:ak} {p:Nat}
theorem At.gt (hs:tI L) (hp:At L e p):∀ j,cut L e p≤j→j<L.length→km e (L.getD j default)=true:=by
 intro j hj1 hj2
 by_cases hh:p<L.length∧same (L.getD p default) e
 ·rw [show cut L e p=p+1 from if_pos hh] at hj1
  rw [qB ⟨hh.2.1.symm,hh.2.2.symm⟩]; exact hs p j hj1 hj2
 ·rw [show cut L e p=p from if_neg hh] at hj1
  have hpl:p<L.length:=om
  have h1:=hp.hi p (Nat.le_refl _) hpl
  have h2:¬ same (L.getD p default) e:=fun h=>hh ⟨hpl,h⟩
  have h3:km e (L.getD p default)=true:=by
   have a:=jQ (a:=L.getD p default) (b:=e)
   have b:=n0 (a:=L.getD p default) (b:=e)
   rw [← qQ]
   rw [h1] at a
   rw [← b] at h2
   have:¬ mQ (L.getD p default) e<0:=fun h=>by have:=a.1 h; cases this
   omega
  rcases Nat.lt_or_ge p j with h | h
  ·exact me h3 (hs p j h hj2)
  ·obtain rfl:j=p:=om
   exact h3
theorem u7 (hp:At L e p):p≤cut L e p∧cut L e p≤L.length:=by
 unfold cut
 split
 ·rename_i h; exact ⟨om,h.1⟩
 ·exact ⟨Nat.le_refl _,hp.le⟩
theorem tI.ins (hs:tI L) (hp:At L e p):tI (L.take p++e::L.drop (cut L e p)):=by
 have hc:=u7 hp
 rw [uD] at *
 have hs':tI L:=uD.2 hs
 rw [List.pairwise_append,List.pairwise_cons]
 refine ⟨hs.sublist (List.take_sublist _ _),⟨fun x hx=>?_,hs.sublist (List.drop_sublist _ _)⟩,fun x hx y hy=>?_⟩
 ·obtain ⟨m,m1,m2,rfl⟩:=oJ (d:=default) hx
  exact hp.gt hs' m m1 m2
 ·obtain ⟨m,m1,m2,rfl⟩:=rW (d:=default) hx
  rcases List.mem_cons.1 hy with rfl | hy
  ·exact hp.lo m m1
  ·obtain ⟨q,q1,q2,rfl⟩:=oJ (d:=default) hy
   exact hs' m q om q2
theorem Fx (hs:tI L) {x y:ak} (hx:x∈L) (hy:y∈L) (h:same x y):x=y:=by
 obtain ⟨i,i1,rfl⟩:=o3 default hx
 obtain ⟨j,j1,rfl⟩:=o3 default hy
 rcases Nat.lt_trichotomy i j with k | rfl | k
 ·exact absurd h (cX (hs i j k j1))
 ·rfl
 ·exact absurd ⟨h.1.symm,h.2.symm⟩ (cX (hs j i k i1))
end
theorem AV {l:List ak} (hl:l.length≤1000000) (hs:tI l) (e:ak) (d:aP):∃ p,At l e p∧Ev (fun k=>dD.f k ⟨l,d⟩ e.aj) ((p:Int),decide (p<l.length)&&decide (same (l.getD p default) e)):=by
 obtain ⟨p,k1,k2,k3,k4⟩:=sN (l:=l) (e:=e.aj) (c:=fun x=>mQ x e) (g:=fun _=>dG.f) (fun x=>Ev.of (DR x e.aj)) hl (fun i j h1 h2 h3=>jQ.2 (me (hs i j h1 h2) (jQ.1 h3)))
 refine ⟨p,⟨k1,fun m hm=>jQ.1 (k2 m hm),fun m h1 h2=>?_⟩,?_⟩
 ·have:=k3 m h1 h2
  cases h:km (l.getD m default) e with
  | false=>rfl
  | true=>have:=jQ.2 h; omega
 ·unfold dD.f
  have e2:(mQ (l.getD p default) e==0)=decide (same (l.getD p default) e):=by
   rw [Bool.eq_iff_iff]; simp [n0]
  rw [← e2]
  exact Ev.bind k4 Ev.pure
section
variable {L:List ak} {T:List Int} {e:ak}
theorem Hw (l:List Int) (m:Nat):(bq .i64).at l (m:Int)=l.getD m 0:=by unfold Kd.at; rw [Int.toNat_natCast] <;> rfl
theorem ry (hT:T.length=L.length) {m:Nat} (hm:m<L.length) {d:Bool} {L':List ak} {T':List Int} (hL':L'.length≤100000) (hT':T'.length≤100000) (hbig:L.length≤100000) (hs:¬ same (L.getD m default) e) {v}
  (G:El (fun k j=>di.l0 k ⟨L,T⟩ e j (d||km e (L.getD m default)) ((m+1:Nat):Int) ((if !d&&km e (L.getD m default) then L'++[e] else L')++[L.getD m default]) ((if !d&&km e (L.getD m default) then T'++[-1] else T')++[T.getD m 0])) v):
  El (fun k j=>di.l0 k ⟨L,T⟩ e j d (m:Int) L' T') v:=by
 have hw:av ((m:Int)+1)=((m+1:Nat):Int):=by rw [aG om om]; omega
 refine El.step (fun _ _=>by rw [di.l0]) ?_
 simp only [hw,jt,Hw]
 generalize hx:L.getD m default=x at *
 refine El.ct (dT om) (El.an ⟨om,om⟩ (El.cf (dF fun h=>hs ⟨h,h⟩) ?_))
 have A:∀ (d':Bool) (q:Bool) (L'':List ak) (T'':List Int),d'=(d||km e x)→L''=(if !d&&km e x then L'++[e] else L')→T''=(if !d&&km e x then T'++[-1] else T')→L''.length≤100001→T''.length≤100001→
   El (fun k j=>an (L''.length+([x]:List ak).length≤9223372036854775807∧(L''.length+([x]:List ak).length)*112≤140737488355328) (an ((0:Int)≤(m:Int)∧(m:Int)<(T.length:Int)) (an (T''.length+([T.getD m 0]:List Int).length≤9223372036854775807∧(T''.length+([T.getD m 0]:List Int).length)*8≤140737488355328) (di.l0 k ⟨L,T⟩ e j d' ((m+1:Nat):Int) (L''++([x]:List ak)) (T''++([T.getD m 0]:List Int)))))) v:=by
  intro d' q L'' T'' e1 e2 e3 b1 b2
  subst e1
  refine El.an ⟨by simp only [List.length_singleton]; omega,by simp only [List.length_singleton]; omega⟩ (El.an ⟨om,om⟩ (El.an ⟨by simp only [List.length_singleton]; omega,by simp only [List.length_singleton]; omega⟩ ?_))
  rw [e2,e3]
  exact G
 have g1:L'.length+([e]:List ak).length≤9223372036854775807∧(L'.length+([e]:List ak).length)*112≤140737488355328:=by simp only [List.length_singleton]; omega
 have g2:T'.length+([(-1)]:List Int).length≤9223372036854775807∧(T'.length+([(-1)]:List Int).length)*8≤140737488355328:=by simp only [List.length_singleton]; omega
 cases d with
 | true=>exact El.bind (a:=(true,false,L',T')) (El.cf rfl El.pure) (A true false L' T' sM sM sM om om)
 | false=>
  cases h3:dK e.aj x.aj with
  | true=>
   have hk:km e x=true:=h3
   exact El.bind (a:=(true,true,L'++[e],T'++[-1])) (El.ct rfl (El.ct rfl (El.an g1 (El.an g2 El.pure)))) (A true true _ _ (by simp [hk]) (by simp [hk]) (by simp [hk]) (by simp; omega) (by simp; omega))
  | false=>
   have hk:km e x=false:=h3
   exact El.bind (a:=(false,false,L',T')) (El.ct rfl (El.cf rfl El.pure)) (A false false L' T' (by simp [hk]) (by simp [hk]) (by simp [hk]) om om)
theorem F3 (hT:T.length=L.length) (hbig:L.length≤50000):∀ (d m:Nat) (L':List ak) (T':List Int),L.length-m≤d→m≤L.length→(∀ j,m≤j→j<L.length→km e (L.getD j default)=true)→L'.length+(L.length-m)≤100000→T'.length+(L.length-m)≤100000→
  El (fun k j=>di.l0 k ⟨L,T⟩ e j true (m:Int) L' T') (.inl (true,(L.length:Int),false,L'++L.drop m,T'++T.drop m)):=by
 intro d
 induction d with
 | zero=>
  intro m L' T' hd hm _ _ _
  obtain rfl:m=L.length:=om
  refine El.step (fun _ _=>by rw [di.l0]) ?_
  have:¬ ((L.length:Int)<(L.length:Int)):=om
  have e1:L'++L.drop L.length=L':=sM
  have e2:T'++T.drop L.length=T':=by simp [← hT]
  rw [dF this,e1,e2]
  exact El.cf rfl El.pure
 | succ d ih=>
  intro m L' T' hd hm h1 hL' hT'
  by_cases hlt:m<L.length
  ·have hk:=h1 m (Nat.le_refl _) hlt
   refine ry hT hlt om om om (fun h=>cX hk ⟨h.1.symm,h.2.symm⟩) ?_
   have:=ih (m+1) (L'++[L.getD m default]) (T'++[T.getD m 0]) om om (fun j hj hj2=>h1 j om hj2) (by simp; omega) (by simp; omega)
   have e1:L'++[L.getD m default]++L.drop (m+1)=L'++L.drop m:=by
    rw [List.drop_eq_getElem_cons hlt,gD,gE hlt]; simp
   have e2:T'++[T.getD m 0]++T.drop (m+1)=T'++T.drop m:=by
    rw [List.drop_eq_getElem_cons (by omega:m<T.length),gD,gE (by omega:m<T.length)]; simp
   rw [e1,e2] at this
   simpa using this
  ·exact ih m L' T' om hm h1 hL' hT'
theorem F7 (hT:T.length=L.length) (hbig:L.length≤50000) (m:Nat) (L':List ak) (T':List Int) (hm:m≤L.length) (h1:∀ j,m≤j→j<L.length→km e (L.getD j default)=true) (hL':L'.length+(L.length-m)≤99990) (hT':T'.length+(L.length-m)≤99990):
  ∃ d L'' T'',El (fun k j=>di.l0 k ⟨L,T⟩ e j false (m:Int) L' T') (.inl (d,(L.length:Int),false,L'',T''))∧L''.length≤100000∧T''.length≤100000∧(if d then L'' else L''++[e])=L'++e::L.drop m∧(if d then T'' else T''++[-1])=T'++(-1)::T.drop m:=by
 by_cases hlt:m<L.length
 ·have hk:=h1 m (Nat.le_refl _) hlt
  have:=F3 (e:=e) hT hbig L.length (m+1) (L'++[e]++[L.getD m default]) (T'++[-1]++[T.getD m 0]) om om (fun j hj hj2=>h1 j om hj2) (by simp; omega) (by simp; omega)
  have e1:L'++[e]++[L.getD m default]++L.drop (m+1)=L'++e::L.drop m:=by
   rw [List.drop_eq_getElem_cons hlt,gD,gE hlt]; simp
  have e2:T'++[-1]++[T.getD m 0]++T.drop (m+1)=T'++(-1)::T.drop m:=by
   rw [List.drop_eq_getElem_cons (by omega:m<T.length),gD,gE (by omega:m<T.length)]; simp
  rw [e1,e2] at this
  refine ⟨true,_,_,ry hT hlt om om om (fun h=>cX hk ⟨h.1.symm,h.2.symm⟩) (by rw [hk]; exact this),by simp; omega,by simp; omega,rfl,rfl⟩
 ·obtain rfl:m=L.length:=om
  refine ⟨false,L',T',?_,om,om,sM,by simp [← hT]⟩
  refine El.step (fun _ _=>by rw [di.l0]) ?_
  have:¬ ((L.length:Int)<(L.length:Int)):=om
  rw [dF this]
  exact El.cf rfl El.pure
theorem FG (hT:T.length=L.length) (hbig:L.length≤50000) {p:Nat} (hp:p≤L.length) (h1:∀ m,m<p→km (L.getD m default) e=true) {v} (G:El (fun k j=>di.l0 k ⟨L,T⟩ e j false (p:Int) (L.take p) (T.take p)) v):∀ d m,p-m≤d→m≤p→El (fun k j=>di.l0 k ⟨L,T⟩ e j false (m:Int) (L.take m) (T.take m)) v:=by
 intro d
 induction d with
 | zero=>
      intro m hd hm; obtain rfl:m=p:=om
      exact G
 | succ d ih=>
  intro m hd hm
  by_cases hlt:m<p
  ·have hk:=h1 m hlt
   have hn:=sC hk
   have:=ih (m+1) om om
   have e1:L.take (m+1)=L.take m++[L.getD m default]:=by
    rw [List.take_succ_eq_append_getElem (by omega:m<L.length),gD,gE (by omega:m<L.length)]; simp
   have e2:T.take (m+1)=T.take m++[T.getD m 0]:=by
    rw [List.take_succ_eq_append_getElem (by omega:m<T.length),gD,gE (by omega:m<T.length)]; simp
   rw [e1,e2] at this
   exact ry hT om (by simp; omega) (by simp; omega) om (cX hk) (by rw [hn]; exact this)
  ·obtain rfl:m=p:=om
   exact G
theorem tD (he:mR e) (hL:∀ x∈L,mR x) (hs:tI L) (hT:T.length=L.length) (hbig:L.length≤50000) {p:Nat} (hp:At L e p):
  Ev (fun k=>di.f k ⟨L,T⟩ e) (if tG L e p then (⟨L,T⟩,false,0) else (⟨L.take p++e::L.drop (cut L e p),T.take p++(-1)::T.drop (cut L e p)⟩,true,0)):=by
 unfold di.f
 have hk:(e.aI != 3)=false:=by rw [he.kind]; rfl
 refine Ev.bind (yp he) (Ev.cf hk (Ev.cf rfl ?_))
 have start:∀ {v},El (fun k j=>di.l0 k ⟨L,T⟩ e j false (p:Int) (L.take p) (T.take p)) v→El (fun k j=>di.l0 k ⟨L,T⟩ e j false 0 [] []) v:=fun G=>by
  have:=FG hT hbig hp.le hp.lo G p 0 om om
  simpa using this
 have fin:∀ {c:Nat},p≤c→c≤L.length→(∀ j,c≤j→j<L.length→km e (L.getD j default)=true)→(El (fun k j=>di.l0 k ⟨L,T⟩ e j false (c:Int) (L.take p) (T.take p))=El (fun k j=>di.l0 k ⟨L,T⟩ e j false (c:Int) (L.take p) (T.take p)))→
   (∀ v,El (fun k j=>di.l0 k ⟨L,T⟩ e j false (c:Int) (L.take p) (T.take p)) v→El (fun k j=>di.l0 k ⟨L,T⟩ e j false 0 [] []) v)→
   Ev (fun k=>(di.l0 k (⟨L,T⟩:lH) e k false 0 ([]:List ak) ([]:List Int)).bind (fall fun (p263:Bool×Int×Bool×(List ak)×(List Int))=>cond (!p263.1) (an (p263.2.2.2.1.length+([e]:List ak).length≤9223372036854775807∧(p263.2.2.2.1.length+([e]:List ak).length)*112≤140737488355328) (an (p263.2.2.2.2.length+([(-1)]:List Int).length≤9223372036854775807∧(p263.2.2.2.2.length+([(-1)]:List Int).length)*8≤140737488355328) (some ((⟨p263.2.2.2.1++([e]:List ak),p263.2.2.2.2++([(-1)]:List Int)⟩:lH),true,0)))) (some ((⟨p263.2.2.2.1,p263.2.2.2.2⟩:lH),true,0))))
    (⟨L.take p++e::L.drop c,T.take p++(-1)::T.drop c⟩,true,0):=by
  intro c hc1 hc2 h1 _ st
  obtain ⟨d,L'',T'',k1,k2,k3,k4,k5⟩:=F7 (e:=e) hT hbig c (L.take p) (T.take p) hc2 h1 (by simp; omega) (by simp; omega)
  refine Ev.bind (st _ k1).diag ?_
  cases d with
  | true=>
   simp only [if_true] at k4 k5
   rw [← k4,← k5]
   exact Ev.pure
  | false=>
   simp only [if_false,Bool.false_eq_true] at k4 k5
   rw [← k4,← k5]
   refine Ev.of ?_
   show an (L''.length+1≤9223372036854775807∧(L''.length+1)*112≤140737488355328) (an (T''.length+1≤9223372036854775807∧(T''.length+1)*8≤140737488355328) (some _))=_
   simp only [an]
   rw [if_pos ⟨om,om⟩,if_pos ⟨om,om⟩]
 by_cases hh:p<L.length∧same (L.getD p default) e
 ·have hcut:cut L e p=p+1:=if_pos hh
  have hsm:mR (L.getD p default):=hL _ (by rw [gD,gE hh.1]; exact List.getElem_mem hh.1)
  have hw:av ((p:Int)+1)=((p+1:Nat):Int):=by rw [aG om om]; omega
  by_cases hc:og e (L.getD p default)≤0
  ·have ho:tG L e p=true:=dT ⟨hh.1,hh.2,hc⟩
   rw [ho,if_pos rfl]
   have G:El (fun k j=>di.l0 k ⟨L,T⟩ e j false (p:Int) (L.take p) (T.take p)) (.inr (⟨L,T⟩,false,0)):=by
    refine El.step (fun _ _=>by rw [di.l0]) ?_
    simp only [jt]
    exact El.ct (dT om) (El.an ⟨om,om⟩ (El.ct (dT hh.2.1) (El.bind (qR he.sm hsm.sm).el (El.ct (dT hc) El.pure))))
   exact Ev.bind (start G).diag Ev.pure
  ·have ho:tG L e p=false:=dF (fun h=>hc h.2.2)
   rw [ho,hcut,if_neg sM]
   refine fin (Nat.le_succ _) hh.1 (fun j hj1 hj2=>?_) rfl (fun v G=>start ?_)
   ·rw [qB ⟨hh.2.1.symm,hh.2.2.symm⟩]; exact hs p j hj1 hj2
   ·refine El.step (fun _ _=>by rw [di.l0]) ?_
    simp only [jt,hw]
    exact El.ct (dT om) (El.an ⟨om,om⟩ (El.ct (dT hh.2.1) (El.bind (qR he.sm hsm.sm).el (El.cf (dF hc) G))))
 ·have hcut:cut L e p=p:=if_neg hh
  have ho:tG L e p=false:=dF (fun h=>hh ⟨h.1,h.2.1⟩)
  rw [ho,hcut,if_neg sM]
  refine fin (Nat.le_refl _) hp.le (fun j hj1 hj2=>?_) rfl (fun v G=>start G)
  have hpl:p<L.length:=om
  have h1:=hp.hi p (Nat.le_refl _) hpl
  have h2:¬ same (L.getD p default) e:=fun h=>hh ⟨hpl,h⟩
  have h3:km e (L.getD p default)=true:=by
   have a:=jQ (a:=L.getD p default) (b:=e)
   have b:=n0 (a:=L.getD p default) (b:=e)
   rw [← qQ]
   rw [h1] at a
   rw [← b] at h2
   have:¬ mQ (L.getD p default) e<0:=fun h=>by have:=a.1 h; cases this
   omega
  rcases Nat.lt_or_ge p j with h | h
  ·exact me h3 (hs p j h hj2)
  ·obtain rfl:j=p:=om
   exact h3
end
end Go.Proofs.YtfknmdelgepbjaaGreatDoor.Pr
