import Derived.Test.YtfknmdelgepbjaaGreatDoorVZPrPG
set_option linter.all false
set_option maxRecDepth 10000
namespace Go.Proofs.YtfknmdelgepbjaaGreatDoor.Pr
open Go Go.Sp
def qq (e:ak) (above:Int):Option Int:=
 if e.aQ=2 then (if above<e.aU+30 then some (e.aU+30) else if above<e.aU+90 then some (e.aU+90) else none)
 else if e.aQ=1 then (if above<e.aU+90 then some (e.aU+90) else none) else none
def kY (e:ak) (at_:Int):Int:=if e.aQ=2∧at_<e.aU+30 then 2 else if 0<e.aQ∧at_<e.aU+90 then 1 else 0
theorem nP {e:ak} (h:mR e) (at_:Int):dY.f e at_=some (kY e at_):=by
 have h1:=h.state
 have h2:=h.tick
 have w1:av (e.aU+30)=e.aU+30:=aG om om
 have w2:av (e.aU+90)=e.aU+90:=aG om om
 unfold dY.f kY
 rw [w1,w2]
 have h3:e.aQ=0∨e.aQ=1∨e.aQ=2:=om
 rcases h3 with h3 | h3 | h3 <;> rw [h3] <;> by_cases a:at_<e.aU+30 <;> by_cases b:at_<e.aU+90 <;> simp [a,b]
theorem Hz {e:ak} (h:mR e) {above:Int} (ha:-1≤above):Ev (fun k=>bI.f k e above) ((qq e above).getD 0,(qq e above).isSome):=by
 have h1:=h.state
 have h2:=h.tick
 have h3:e.aQ=0∨e.aQ=1∨e.aQ=2:=om
 have w1:av (e.aU+(bq .i64).at ([30,90]:List Int) 0)=e.aU+30:=aG (x:=e.aU+30) om om
 have w2:av (e.aU+(bq .i64).at ([30,90]:List Int) 1)=e.aU+90:=aG (x:=e.aU+90) om om
 have w3:av (e.aU+30-1)=e.aU+29:=by rw [aG om om]; omega
 have w4:av (e.aU+90-1)=e.aU+89:=by rw [aG om om]; omega
 have s1:kY e (e.aU+29)=e.aQ:=by unfold kY; rcases h3 with h3 | h3 | h3 <;> rw [h3] <;> simp <;> omega
 have s2:kY e (e.aU+30)=(if e.aQ=0 then 0 else 1):=by unfold kY; rcases h3 with h3 | h3 | h3 <;> rw [h3] <;> simp <;> omega
 have s3:kY e (e.aU+89)=(if e.aQ=0 then 0 else 1):=by unfold kY; rcases h3 with h3 | h3 | h3 <;> rw [h3] <;> simp <;> omega
 have s4:kY e (e.aU+90)=0:=by unfold kY; rcases h3 with h3 | h3 | h3 <;> rw [h3] <;> simp
 unfold bI.f
 have e1:av (0+1)=1:=rfl
 have e2:av (1+1)=2:=rfl
 have fin:El (fun k j=>bI.l0 k e above j 2) (.inl (2,false)):=by
  refine El.step (fun _ _=>by rw [bI.l0]) ?_
  exact El.cf dc El.pure
 have second:∀ {v},(above<e.aU+90→0<e.aQ→v = .inr (e.aU+90,true))→(¬ (above<e.aU+90∧0<e.aQ)→v = .inl (2,false))→El (fun k j=>bI.l0 k e above j 1) v:=by
  intro v v1 v2
  refine El.step (fun _ _=>by rw [bI.l0]) ?_
  simp only [w2,w4,e2]
  refine El.ct dc (El.an dc ?_)
  by_cases k1:above<e.aU+90
  ·refine El.ct (dT k1) (El.bind (Ev.el (Ev.of (nP h _))) (El.bind (Ev.el (Ev.of (nP h _))) ?_))
   rw [s3,s4]
   by_cases k2:e.aQ=0
   ·rw [v2 (fun k=>om),if_pos k2]
    exact El.cf dc fin
   ·rw [v1 k1 om,if_neg k2]
    exact El.ct dc El.pure
  ·rw [v2 (fun k=>k1 k.1)]
   exact El.cf (dF k1) fin
 by_cases k1:above<e.aU+30∧e.aQ=2
 ·have hv:qq e above=some (e.aU+30):=by unfold qq; rw [if_pos k1.2,if_pos k1.1]
  rw [hv]
  have L:El (fun k j=>bI.l0 k e above j 0) (.inr (e.aU+30,true)):=by
   refine El.step (fun _ _=>by rw [bI.l0]) ?_
   simp only [w1,w3,e1]
   refine El.ct dc (El.an dc (El.ct (dT k1.1) (El.bind (Ev.el (Ev.of (nP h _))) (El.bind (Ev.el (Ev.of (nP h _))) ?_))))
   rw [s1,s2,k1.2]
   exact El.ct dc El.pure
  exact Ev.bind L.diag Ev.pure
 ·have first:∀ {v},El (fun k j=>bI.l0 k e above j 1) v→El (fun k j=>bI.l0 k e above j 0) v:=by
   intro v G
   refine El.step (fun _ _=>by rw [bI.l0]) ?_
   simp only [w1,w3,e1]
   refine El.ct dc (El.an dc ?_)
   by_cases k2:above<e.aU+30
   ·refine El.ct (dT k2) (El.bind (Ev.el (Ev.of (nP h _))) (El.bind (Ev.el (Ev.of (nP h _))) (El.cf ?_ G)))
    rw [s1,s2]
    have k3:¬ e.aQ=2:=fun k=>k1 ⟨k2,k⟩
    apply dF
    split <;> omega
   ·exact El.cf (dF k2) G
  by_cases k2:above<e.aU+90∧0<e.aQ
  ·have hv:qq e above=some (e.aU+90):=by
    unfold qq
    rcases h3 with h3 | h3 | h3
    ·omega
    ·rw [h3,if_neg dc,if_pos rfl,if_pos k2.1]
    ·rw [h3,if_pos rfl,if_neg (fun k=>k1 ⟨k,h3⟩),if_pos k2.1]
   rw [hv]
   exact Ev.bind (first (second (fun _ _=>rfl) (fun k=>absurd k2 k))).diag Ev.pure
  ·have hv:qq e above=none:=by
    unfold qq
    rcases h3 with h3 | h3 | h3
    ·rw [h3,if_neg dc,if_neg dc]
    ·rw [h3,if_neg dc,if_pos rfl,if_neg (fun k=>k2 ⟨k,om⟩)]
    ·have:¬ above<e.aU+90:=fun k=>k2 ⟨k,om⟩
     rw [h3,if_pos rfl,if_neg om,if_neg this]
   rw [hv]
   exact Ev.bind (first (second (fun a b=>absurd ⟨a,b⟩ k2) (fun _=>rfl))).diag Ev.pure
structure Rel (t:cD) (Z:List (ak×Int)) (n:Nat):Prop where
 fl:t.fl=Z.map (·.1)
 vP:tI (Z.map (·.1))
 ok:∀ q∈Z,mR q.1
 idx:AZ t.fh
 ord:Ord t.fh.fl
 ln:Z.length≤n
 hn:t.fh.fl.length≤n
 cont:∀ x,x∈t.fh.fl↔∃ q∈Z,qq q.1 q.2=some x.hM∧x.dw=q.1.aj
def j9 (Z:List (ak×Int)) (e:ak) (p:Nat):List (ak×Int):=Z.take p++(e,-1)::Z.drop (cut (Z.map (·.1)) e p)
theorem rS:Rel ⟨[],⟨[],[]⟩⟩ [] 0:=⟨rfl,fun i j _ h=>by simp at h,fun q hq=>(by cases hq),CK,CH,Nat.le_refl _,Nat.le_refl _,fun x=>sM⟩
theorem nL {Z:List (ak×Int)} {e:ak} {p:Nat}:(j9 Z e p).map (·.1)=(Z.map (·.1)).take p++e::(Z.map (·.1)).drop (cut (Z.map (·.1)) e p):=by
 simp [j9,List.map_take,List.map_drop]
theorem sS {Z:List (ak×Int)} {e:ak} {p:Nat}:(j9 Z e p).map (·.2)=(Z.map (·.2)).take p++(-1)::(Z.map (·.2)).drop (cut (Z.map (·.1)) e p):=by
 simp [j9,List.map_take,List.map_drop]
theorem pR {t:cD} {Z:List (ak×Int)} {n p:Nat} {e:ak} {h':aP} (R:Rel t Z n) (he:mR e) (hp:At (Z.map (·.1)) e p) (hi:AZ h') (hor:Ord h'.fl) (hl:h'.fl.length≤n+1) (hc:∀ x,x∈h'.fl↔(qq e (-1)=some x.hM∧x.dw=e.aj)∨(x∈t.fh.fl∧x.dw≠e.aj)):
  Rel ⟨(j9 Z e p).map (·.1),h'⟩ (j9 Z e p) (n+1):=by
 have hcut:=u7 hp
 rw [List.length_map] at hcut
 have hg:∀ m,(Z.map (·.1)).getD m default=(Z.getD m default).1:=fun m=>by
  simp only [gD,List.getElem?_map]
  cases Z[m]? <;> rfl
 refine ⟨rfl,?_,fun q hq=>?_,hi,hor,?_,hl,fun x=>?_⟩
 ·rw [nL]; exact R.vP.ins hp
 ·unfold j9 at hq
  rcases List.mem_append.1 hq with hq | hq
  ·exact R.ok q (List.mem_of_mem_take hq)
  ·rcases List.mem_cons.1 hq with rfl | hq
   ·exact he
   ·exact R.ok q (List.mem_of_mem_drop hq)
 ·unfold j9
  have:=R.ln
  simp only [List.length_append,List.length_take,List.length_cons,List.length_drop]; omega
 ·rw [hc,R.cont]
  unfold j9
  constructor
  ·rintro (⟨h1,h2⟩ | ⟨⟨q,q1,q2,q3⟩,h2⟩)
   ·exact ⟨(e,-1),List.mem_append_right _ (List.mem_cons_self ..),h1,h2⟩
   ·refine ⟨q,?_,q2,q3⟩
    obtain ⟨m,m1,rfl⟩:=o3 default q1
    rcases Nat.lt_or_ge m p with h | h
    ·refine List.mem_append_left _ ?_
     rw [List.mem_iff_getElem]
     exact ⟨m,by rw [List.length_take]; omega,by rw [List.getElem_take,gD,gE m1]; rfl⟩
    ·refine List.mem_append_right _ (List.mem_cons_of_mem _ ?_)
     have hcm:cut (Z.map (·.1)) e p≤m:=by
      unfold cut
      split
      ·rename_i hh
       rcases Nat.lt_or_ge p m with h3 | h3
       ·exact h3
       ·obtain rfl:m=p:=om
        rw [hg] at hh
        exact absurd (by rw [q3]; exact hh.2.1) h2
      ·exact h
     rw [List.mem_iff_getElem]
     refine ⟨m-cut (Z.map (·.1)) e p,by rw [List.length_drop]; omega,?_⟩
     rw [List.getElem_drop,gD,gE m1]
     simp only [Option.getD_some]
     congr 1; omega
  ·rintro ⟨q,q1,q2,q3⟩
   rcases List.mem_append.1 q1 with q1 | q1
   ·obtain ⟨m,m1,m2,rfl⟩:=rW (d:=default) q1
    refine .inr ⟨⟨_,eR m2,q2,q3⟩,fun h=>?_⟩
    rw [q3] at h
    exact cX (hp.lo m m1) (by rw [hg]; exact ⟨h,h⟩)
   ·rcases List.mem_cons.1 q1 with rfl | q1
    ·exact .inl ⟨q2,q3⟩
    ·obtain ⟨m,m1,m2,rfl⟩:=oJ (d:=default) q1
     refine .inr ⟨⟨_,eR m2,q2,q3⟩,fun h=>?_⟩
     rw [q3] at h
     have h3:=hp.gt R.vP m m1 (by rw [List.length_map]; exact m2)
     rw [hg] at h3
     exact cX h3 ⟨h.symm,h.symm⟩
theorem qz {a b:ak} (ha:mR a) (hb:mR b) (h:same b a):Ev (fun k=>j4.f k a b) (decide (0<og a b)):=by
 unfold j4.f pV.f
 refine Ev.bind Ev.pure (Ev.bind Ev.pure (Ev.ct (dT ?_) (Ev.bind (Ff ha.sm hb.sm) Ev.pure)))
 rw [ha.kind,hb.kind,ha.room,hb.room,ha.kA,hb.kA,ha.tV,hb.tV,h.1]
theorem vV {t:cD} {Z:List (ak×Int)} {n:Nat} {e:ak} (R:Rel t Z n) (hn:n≤1000) (he:mR e):∃ p,At (Z.map (·.1)) e p∧
  Ev (fun k=>di.f k ⟨Z.map (·.1),Z.map (·.2)⟩ e) (if tG (Z.map (·.1)) e p then (⟨Z.map (·.1),Z.map (·.2)⟩,false,0) else (⟨(j9 Z e p).map (·.1),(j9 Z e p).map (·.2)⟩,true,0))∧
  ∃ t',Ev (fun k=>eN.f k t e) (!tG (Z.map (·.1)) e p,0,t')∧Rel t' (if tG (Z.map (·.1)) e p then Z else j9 Z e p) (n+1):=by
 obtain ⟨p,hp,hev⟩:=AV (l:=Z.map (·.1)) (by rw [List.length_map]; have:=R.ln; omega) R.vP e t.fh
 refine ⟨p,hp,?_,?_⟩
 ·have:=tD (T:=Z.map (·.2)) he (fun x hx=>by obtain ⟨q,hq,rfl⟩:=List.mem_map.1 hx; exact R.ok q hq) R.vP sM (by rw [List.length_map]; have:=R.ln; omega) hp
  rw [nL,sS]
  exact this
 ·obtain ⟨fl,fh⟩:=t
  obtain ⟨r1,r2,r3,r4,ro,r5,r6,r7⟩:=R
  simp only at r1 r4 ro r6 r7 hev
  subst r1
  have hlen:(Z.map (·.1)).length≤n:=by rw [List.length_map]; exact r5
  generalize hL:Z.map (·.1)=L at *
  have hk:(e.aI != 3)=false:=by rw [he.kind]; rfl
  have tail:tG L e p=false→∀ (fl':List ak),fl'=(j9 Z e p).map (·.1)→∃ t',Ev (fun k=>(dt.f k fh e.aj).bind fun t785=>(bI.f k e (-1)).bind fun t787=>cond t787.2 ((eW.f k t785.2 t787.1 e.aj).bind fun t790=>some (true,(0:Int),(⟨fl',t790⟩:cD))) (some (true,0,(⟨fl',t785.2⟩:cD)))) (true,0,t')∧Rel t' (j9 Z e p) (n+1):=by
   intro _ fl' hfl
   obtain ⟨h1,d1,d2,d3,d4,d5⟩:=yo r4 ro om e.aj
   have R0:Rel ⟨L,fh⟩ Z n:=⟨hL.symm,by rw [hL]; exact r2,r3,r4,ro,r5,r6,r7⟩
   have tv:=Hz he (above:=-1) om
   cases ho:qq e (-1) with
   | some v=>
    rw [ho] at tv
    obtain ⟨h2,u1,u2,u3,u4,u5⟩:=G4 d2 d5 om v e.aj
    refine ⟨⟨fl',h2⟩,Ev.bind d1 (Ev.bind tv (Ev.ct rfl (Ev.bind u1 Ev.pure))),?_⟩
    rw [hfl]
    refine pR R0 he (by rw [hL]; exact hp) u2 u5 ?_ (fun x=>?_)
    ·have:(mget h1.iU e.aj)=none:=by
      cases hm:mget h1.iU e.aj with
      | none=>rfl
      | some v=>obtain ⟨i,_,hi,hk⟩:=d2.bw _ _ hm; exact absurd hk ((d4 _).1 (eR hi)).2
     rw [this] at u3
     simp at u3
     omega
    ·rw [u4,d4,ho]
     constructor
     ·rintro (rfl | ⟨⟨a,_⟩,b⟩)
      ·exact .inl ⟨rfl,rfl⟩
      ·exact .inr ⟨a,b⟩
     ·rintro (⟨a,b⟩ | ⟨a,b⟩)
      ·obtain ⟨x1,x2⟩:=x
       simp only [Option.some.injEq] at a b
       subst a b
       exact .inl rfl
      ·exact .inr ⟨⟨a,b⟩,b⟩
   | none=>
    rw [ho] at tv
    refine ⟨⟨fl',h1⟩,Ev.bind d1 (Ev.bind tv (Ev.cf rfl Ev.pure)),?_⟩
    rw [hfl]
    refine pR R0 he (by rw [hL]; exact hp) d2 d5 (by show h1.fl.length≤_; omega) (fun x=>?_)
    rw [d4,ho]
    constructor
    ·rintro ⟨a,b⟩; exact .inr ⟨a,b⟩
    ·rintro (⟨a,_⟩ | ⟨a,b⟩)
     ·cases a
     ·exact ⟨a,b⟩
  have hmap:(j9 Z e p).map (·.1)=L.take p++e::L.drop (cut L e p):=by rw [nL,hL]
  unfold eN.f
  dsimp only
  by_cases hh:p<L.length∧same (L.getD p default) e
  ·have hcut:cut L e p=p+1:=if_pos hh
   have hx:mR (L.getD p default):=by
    obtain ⟨q,hq,e1⟩:=List.mem_map.1 (by rw [hL]; exact eR (d:=default) hh.1:L.getD p default∈Z.map (·.1))
    rw [← e1]; exact r3 q hq
   have hhas:(decide (p<L.length)&&decide (same (L.getD p default) e))=true:=by rw [dT hh.1,dT hh.2]; rfl
   rw [hhas] at hev
   by_cases hc:og e (L.getD p default)≤0
   ·have ho:tG L e p=true:=dT ⟨hh.1,hh.2,hc⟩
    rw [ho]
    show ∃ t',Ev _ (false,0,t')∧Rel t' Z (n+1)
    refine ⟨⟨L,fh⟩,Ev.cf hk (Ev.bind (mb he) (Ev.cf rfl (Ev.bind hev (Ev.bind (a:=(.inr (false,0,⟨L,fh⟩):(Bool×Bool×Bool×cD) ⊕ (Bool×Int×cD))) (Ev.ct rfl (Ev.an ⟨om,by have:=hh.1; omega⟩ (Ev.bind (qz he hx hh.2) (Ev.ct ?_ Ev.pure)))) Ev.pure)))),?_⟩
    ·show (!decide (0<og e (L.getD p default)))=_; rw [dF om]; rfl
    ·exact ⟨hL.symm,by rw [hL]; exact r2,r3,r4,ro,om,by show fh.fl.length≤_; omega,r7⟩
   ·have ho:tG L e p=false:=dF (fun h=>hc h.2.2)
    obtain ⟨t',k1,k2⟩:=tail ho (L.set p e) (by rw [hmap,hcut,List.set_eq_take_append_cons_drop,if_pos hh.1])
    rw [ho]
    show ∃ t',Ev _ (true,0,t')∧Rel t' (j9 Z e p) (n+1)
    refine ⟨t',Ev.cf hk (Ev.bind (mb he) (Ev.cf rfl (Ev.bind hev (Ev.bind (a:=(.inl (true,!decide (0<og e (L.getD p default)),true,⟨L.set p e,fh⟩):(Bool×Bool×Bool×cD) ⊕ (Bool×Int×cD))) (Ev.ct rfl (Ev.an ⟨om,by have:=hh.1; omega⟩ (Ev.bind (qz he hx hh.2) (Ev.cf ?_ (Ev.an ⟨om,by have:=hh.1; omega⟩ ?_))))) k1)))),k2⟩
    ·show (!decide (0<og e (L.getD p default)))=_; rw [dT om]; rfl
    ·rw [Int.toNat_natCast]; exact Ev.pure
  ·have hcut:cut L e p=p:=if_neg hh
   have ho:tG L e p=false:=dF (fun h=>hh ⟨h.1,h.2.1⟩)
   have hhas:(decide (p<L.length)&&decide (same (L.getD p default) e))=false:=by
    rw [Bool.and_eq_false_iff]
    by_cases h:p<L.length
    ·exact .inr (dF fun h2=>hh ⟨h,h2⟩)
    ·exact .inl (dF h)
   rw [hhas] at hev
   obtain ⟨t',k1,k2⟩:=tail ho (L.take p++[e]++L.drop p) (by rw [hmap,hcut]; simp)
   have hins:da.f L (p:Int) [e]=some (L.take p++[e]++L.drop p):=by
    unfold da.f
    have h1:=hp.le
    simp only [an,Int.toNat_natCast,List.length_singleton]
    rw [if_pos ⟨om,om,om,om,om⟩]
   rw [ho]
   show ∃ t',Ev _ (true,0,t')∧Rel t' (j9 Z e p) (n+1)
   exact ⟨t',Ev.cf hk (Ev.bind (mb he) (Ev.cf rfl (Ev.bind hev (Ev.bind (a:=(.inl (false,false,false,⟨L.take p++[e]++L.drop p,fh⟩):(Bool×Bool×Bool×cD) ⊕ (Bool×Int×cD))) (Ev.cf rfl (Ev.bind (Ev.of hins) Ev.pure)) k1)))),k2⟩
theorem u9 {t:cD} {Z:List (ak×Int)} {n:Nat} {e:ak} (R:Rel t Z n) (hn:n≤1000) (he:mR e):∃ Z' b t',Ev (fun k=>di.f k ⟨Z.map (·.1),Z.map (·.2)⟩ e) (⟨Z'.map (·.1),Z'.map (·.2)⟩,b,0)∧Ev (fun k=>eN.f k t e) (b,0,t')∧Rel t' Z' (n+1):=by
 obtain ⟨p,hp,h1,t',h2,h3⟩:=vV R hn he
 cases ho:tG (Z.map (·.1)) e p with
 | true=>rw [ho] at h1 h2 h3; exact ⟨Z,false,t',h1,h2,h3⟩
 | false=>rw [ho] at h1 h2 h3; exact ⟨j9 Z e p,true,t',h1,h2,h3⟩
theorem nS {t:cD} {Z:List (ak×Int)} {n m:Nat} (R:Rel t Z n) (h:n≤m):Rel t Z m:=⟨R.fl,R.vP,R.ok,R.idx,R.ord,by have:=R.ln; omega,by have:=R.hn; omega,R.cont⟩
theorem KT {t:cD} {Z:List (ak×Int)} {n:Nat} (R:Rel t Z n):∀ x∈Z.map (·.1),mR x:=fun x hx=>by obtain ⟨q,hq,rfl⟩:=List.mem_map.1 hx; exact R.ok q hq
theorem B4:lL.f=some ⟨[],⟨[],[]⟩⟩:=rfl
section
variable {L:List ak} {e:ak} {p:Nat} {user:BA} {at_:Int}
def Hm (L:List ak) (user:BA) (at_:Int) (b:Int):Prop:=(∃ x,x∈L∧x.aj=user∧b=kY x at_)∨((∀ x,x∈L→x.aj≠user)∧b=0)
theorem Ej {h:aP} (hb:L.length≤100000) (hs:tI L) (ok:∀ x∈L,mR x) (user:BA) (at_:Int):∃ b,Hm L user at_ b∧Ev (fun k=>bS.f k ⟨L,h⟩ user at_) b:=by
 obtain ⟨p,hp,hev⟩:=AV (l:=L) om hs (⟨0,⟨#[]⟩,user,⟨#[]⟩,⟨#[]⟩,false,false,0,0,0,0⟩:ak) h
 unfold bS.f
 dsimp only at hev ⊢
 by_cases hh:p<L.length∧same (L.getD p default) (⟨0,⟨#[]⟩,user,⟨#[]⟩,⟨#[]⟩,false,false,0,0,0,0⟩:ak)
 ·have hhas:(decide (p<L.length)&&decide (same (L.getD p default) (⟨0,⟨#[]⟩,user,⟨#[]⟩,⟨#[]⟩,false,false,0,0,0,0⟩:ak)))=true:=by rw [dT hh.1,dT hh.2]; rfl
  rw [hhas] at hev
  have h1:=hh.1
  refine ⟨kY (L.getD p default) at_,.inl ⟨L.getD p default,eR h1,hh.2.1,rfl⟩,Ev.bind hev (Ev.cf rfl (Ev.an ⟨om,by show (p:Int)<_; omega⟩ (Ev.bind (a:=kY (L.getD p default) at_) (Ev.of ?_) Ev.pure)))⟩
  show dY.f (L.getD (p:Int).toNat default) at_=_
  rw [Int.toNat_natCast]; exact nP (ok _ (eR h1)) at_
 ·have hhas:(decide (p<L.length)&&decide (same (L.getD p default) (⟨0,⟨#[]⟩,user,⟨#[]⟩,⟨#[]⟩,false,false,0,0,0,0⟩:ak)))=false:=by
   rw [Bool.and_eq_false_iff]
   by_cases h:p<L.length
   ·exact .inr (dF fun h2=>hh ⟨h,h2⟩)
   ·exact .inl (dF h)
  rw [hhas] at hev
  have hcut:cut L (⟨0,⟨#[]⟩,user,⟨#[]⟩,⟨#[]⟩,false,false,0,0,0,0⟩:ak) p=p:=if_neg hh
  have hgt:=hp.gt hs
  rw [hcut] at hgt
  refine ⟨0,.inr ⟨fun x hx h=>?_,rfl⟩,Ev.bind hev (Ev.ct rfl Ev.pure)⟩
  obtain ⟨m,m1,rfl⟩:=o3 default hx
  rcases Nat.lt_or_ge m p with h1 | h1
  ·exact cX (hp.lo m h1) ⟨h,h⟩
  ·exact cX (hgt m h1 m1) ⟨h.symm,h.symm⟩
theorem Hm.uniq (hs:tI L) {b b':Int} (h:Hm L user at_ b) (h':Hm L user at_ b'):b=b':=by
 rcases h with ⟨x,x1,x2,x4⟩ | ⟨h1,h2⟩ <;> rcases h' with ⟨y,y1,y2,y4⟩ | ⟨h3,h4⟩
 ·obtain rfl:=Fx hs x1 y1 ⟨x2.trans y2.symm,x2.trans y2.symm⟩
  rw [x4,y4]
 ·exact absurd x2 (h3 x x1)
 ·exact absurd y2 (h1 y y1)
 ·rw [h2,h4]
end
theorem of_eq {e:ak} (h:mR e) (at_:Int):sL.f e at_=some (kY e at_):=by
 have h1:=h.state
 have h2:=h.tick
 have w1:av (e.aU+30)=e.aU+30:=aG om om
 have w2:av (e.aU+90)=e.aU+90:=aG om om
 unfold sL.f kY
 rw [w1,w2]
 have h3:e.aQ=0∨e.aQ=1∨e.aQ=2:=om
 rcases h3 with h3 | h3 | h3 <;> rw [h3] <;> by_cases a:at_<e.aU+30 <;> by_cases b:at_<e.aU+90 <;> simp [a,b]
section
variable {L:List ak} {T:List Int} {user:BA} {at_:Int}
theorem yO (hb:L.length≤100000) (ok:∀ x∈L,mR x) (user:BA) (at_:Int):∃ b,Hm L user at_ b∧Ev (fun k=>du.f k ⟨L,T⟩ user at_) b:=by
 have key:∀ d m:Nat,L.length-m≤d→m≤L.length→(∀ i,i<m→(L.getD i default).aj≠user)→(∃ b,Hm L user at_ b∧El (fun k j=>du.l0 k ⟨L,T⟩ user at_ j (m:Int)) (.inr b))∨(Hm L user at_ 0∧El (fun k j=>du.l0 k ⟨L,T⟩ user at_ j (m:Int)) (.inl ((L.length:Int),false))):=by
  intro d
  induction d with
  | zero=>
   intro m hd hm hno
   obtain rfl:m=L.length:=om
   have:¬ ((L.length:Int)<(L.length:Int)):=om
   refine .inr ⟨.inr ⟨fun x hx=>?_,rfl⟩,?_⟩
   ·obtain ⟨i,i1,rfl⟩:=o3 default hx
    exact hno i i1
   ·refine El.step (fun _ _=>by rw [du.l0]) ?_
    dsimp only
    rw [dF this]
    exact El.cf rfl El.pure
  | succ d ih=>
   intro m hd hm hno
   by_cases hlt:m<L.length
   ·by_cases hu:(L.getD m default).aj=user
    ·refine .inl ⟨kY (L.getD m default) at_,.inl ⟨_,eR hlt,hu,rfl⟩,?_⟩
     refine El.step (fun _ _=>by rw [du.l0]) ?_
     simp only [jt]
     exact El.ct (dT om) (El.an ⟨om,om⟩ (El.ct (dT hu) (El.an ⟨om,om⟩ (El.bind (Ev.el (Ev.of (of_eq (ok _ (eR hlt)) at_))) El.pure))))
    ·have step:∀ {v},El (fun k j=>du.l0 k ⟨L,T⟩ user at_ j ((m+1:Nat):Int)) v→El (fun k j=>du.l0 k ⟨L,T⟩ user at_ j (m:Int)) v:=fun G=>by
      refine El.step (fun _ _=>by rw [du.l0]) ?_
      simp only [oc (show m≤1000000 by omega),jt]
      exact El.ct (dT om) (El.an ⟨om,om⟩ (El.cf (dF hu) G))
     rcases ih (m+1) om om (fun i hi=>by
      rcases Nat.lt_or_ge i m with h | h
      ·exact hno i h
      ·obtain rfl:i=m:=om
       exact hu) with ⟨b,h1,h2⟩ | ⟨h1,h2⟩
     ·exact .inl ⟨b,h1,step h2⟩
     ·exact .inr ⟨h1,step h2⟩
   ·exact ih m om hm hno
 unfold du.f
 rcases key L.length 0 om om (fun i hi=>om) with ⟨b,h1,h2⟩ | ⟨h1,h2⟩
 ·exact ⟨b,h1,Ev.bind h2.diag Ev.pure⟩
 ·exact ⟨0,h1,Ev.bind h2.diag Ev.pure⟩
end
end Go.Proofs.YtfknmdelgepbjaaGreatDoor.Pr
