import Derived.Test.YtmmaijneehmbgaaGreatZMC
import Derived.Test.YtmmaijneehmbgaaGreatZPU
import Derived.Test.YtmmaijneehmbgaaGreatZVG
set_option linter.all false
set_option maxRecDepth 10000
namespace Go.Proofs.YtmmaijneehmbgaaGreat
open Go Go.Sp
structure RG (L:List Event):Prop where
 good:Good L
 par:∀ e∈L,e.fParents.length≤4
 does:∀ e∈L,e.fDoes=0∨e.fDoes=1∨e.fDoes=2
 usr:∀ e∈L,e.fUser.size≤maxLen
 len:L.length≤1000
theorem rt_of {m:DDag} {L:List Event} (h:RG L) (hT:T m=tb L):RT m (tb L):=
 ⟨hT,good_nd h.good,tb_id L,fun x hx=>h.par _ (by rw [← tb_evs L]; exact List.mem_map.2 ⟨x,hx,rfl⟩),by rw [tb_len]; exact h.len⟩
theorem before_ev (p q:Pos):r07_Before.f p q=some (ltOf posC p q):=by
 unfold r07_Before.f
 have h:=posC_lt p q
 by_cases h1:p.fDepth<q.fDepth
 ·rw [decide_eq_true h1,(h.2 (.inl h1))]; rfl
 ·rw [decide_eq_false h1]
  by_cases h2:p.fDepth=q.fDepth
  ·rw [show (p.fDepth==q.fDepth)=true by simp [h2]]
   show some (sLt p.fID q.fID)=_
   congr 1
   rw [Bool.eq_iff_iff,h]
   exact ⟨fun k=>.inr ⟨h2,k⟩,fun k=>k.elim (fun k=>absurd k h1) (·.2)⟩
  ·rw [show (p.fDepth==q.fDepth)=false by simp [h2]]
   show some false=_
   congr 1
   cases e:ltOf posC p q with
   | false=>rfl
   | true=>
        rcases h.1 e with k | k
        ·exact absurd k h1
        ·exact absurd k.1 h2
def zeroE:Event:=⟨⟨#[]⟩,⟨#[]⟩,[],⟨#[]⟩,⟨#[]⟩,0⟩
def pr:Option Event→Event×Bool
 | some e=>(e,true)
 | none=>(zeroE,false)
section
variable {d:RDag} (hg:RG d.fL)
include hg
theorem rpos_ev (id:ByteArray):Ev (fun k=>r07_Position.f k d id) (pos (tb d.fL) id):=
 pos_ev hg.good (by have:=hg.len; omega) (fun i hi=>by have:=hg.par _ (ev_mem hi); show _≤9223372036854775807; omega) id
def PM (t:Tab) (L:List Event) (u:ByteArray) (x:Nat) (kx:Int):Prop:=
 (kx = -1∧∀ i,i<x→isRel u (ev L i)=false)∨∃ c:Nat,kx=(c:Int)∧c<x∧isRel u (ev L c)=true∧∀ i,i<x→isRel u (ev L i)=true→ev L i=ev L c∨lt t (ev L i) (ev L c)
theorem rlast_loop (u:ByteArray):∀ n x:Nat,d.fL.length-x=n→x≤d.fL.length→∀ kx:Int,PM (tb d.fL) d.fL u x kx→∃ r:Int×Int×Bool,El (fun k j=>r09_Last.l0 k d u j kx (x:Int)) r∧PM (tb d.fL) d.fL u d.fL.length r.1:=by
 have hl:=hg.len
 intro n
 induction n with
 | zero=>
  intro x hd hx kx hp
  obtain rfl:x=d.fL.length:=by omega
  refine ⟨(kx,(d.fL.length:Int),false),?_,hp⟩
  refine El.step (fun _ _=>by rw [r09_Last.l0]) ?_
  exact El.cf (by simp) (by simpa using El.pure)
 | succ n ih=>
  intro x hd hx kx hp
  have hx2:x<d.fL.length:=by omega
  have g:(0:Int)≤(x:Int)∧(x:Int)<(d.fL.length:Int):=⟨by omega,by omega⟩
  have stay:isRel u (ev d.fL x)=false→PM (tb d.fL) d.fL u (x+1) kx:=fun h=>by
   rcases hp with ⟨h1,h2⟩ | ⟨c,h1,h2,h3,h4⟩
   ·refine .inl ⟨h1,fun i hi=>?_⟩
    rcases Nat.lt_or_ge i x with k | k
    ·exact h2 i k
    ·obtain rfl:i=x:=by omega
     exact h
   ·refine .inr ⟨c,h1,by omega,h3,fun i hi hr=>?_⟩
    rcases Nat.lt_or_ge i x with k | k
    ·exact h4 i k hr
    ·obtain rfl:i=x:=by omega
     rw [h] at hr; cases hr
  have key:∀ kx',PM (tb d.fL) d.fL u (x+1) kx'→(∀ r,El (fun k j=>r09_Last.l0 k d u j kx' (w64 ((x:Int)+1))) r→El (fun k j=>cond (!decide (((Event.K.at d.fL (x:Int)).fUser)=u)) (r09_Last.l0 k d u j kx (w64 ((x:Int)+1))) (grd ((0:Int)≤(x:Int)∧(x:Int)<(d.fL.length:Int)) (cond (((Event.K.at d.fL (x:Int)).fDoes)==0) (r09_Last.l0 k d u j kx (w64 ((x:Int)+1))) (cond (decide (kx<0)) (r09_Last.l0 k d u j (x:Int) (w64 ((x:Int)+1))) (grd ((0:Int)≤kx∧kx<(d.fL.length:Int)) ((r07_Position.f k d ((Event.K.at d.fL kx).fID)).bind fun t625=>grd ((0:Int)≤(x:Int)∧(x:Int)<(d.fL.length:Int)) ((r07_Position.f k d ((Event.K.at d.fL (x:Int)).fID)).bind fun t628=>(r07_Before.f t625 t628).bind fun t630=>cond t630 (r09_Last.l0 k d u j (x:Int) (w64 ((x:Int)+1))) (r09_Last.l0 k d u j kx (w64 ((x:Int)+1)))))))))) r)→∃ r:Int×Int×Bool,El (fun k j=>r09_Last.l0 k d u j kx (x:Int)) r∧PM (tb d.fL) d.fL u d.fL.length r.1:=fun kx' hk hG=>by
   obtain ⟨r,r1,r2⟩:=ih (x+1) (by omega) (by omega) kx' hk
   exact ⟨r,El.step (fun _ _=>by rw [r09_Last.l0]) (El.ct (decide_eq_true (by omega)) (El.grd g (hG r (by rw [rp_inc (by omega)]; exact r1)))),r2⟩
  by_cases hu:(ev d.fL x).fUser=u
  ·by_cases h0:(ev d.fL x).fDoes=0
   ·have hr:isRel u (ev d.fL x)=false:=by unfold isRel; simp [h0]
    obtain ⟨r,r1,r2⟩:=key kx (stay hr) (fun r h=>El.cf (by rw [ev_at hx2]; simp [hu]) (El.grd g (El.ct (by rw [ev_at hx2]; simp [h0]) h)))
    exact ⟨r,r1,r2⟩
   ·have hr:isRel u (ev d.fL x)=true:=by unfold isRel; simp [h0,hu]
    rcases hp with ⟨h1,h2⟩ | ⟨c,h1,h2,h3,h4⟩
    ·obtain ⟨r,r1,r2⟩:=key (x:Int) (.inr ⟨x,rfl,by omega,hr,fun i hi hr'=>by
      rcases Nat.lt_or_ge i x with k | k
      ·rw [h2 i k] at hr'; cases hr'
      ·obtain rfl:i=x:=by omega
       exact .inl rfl⟩) (fun r h=>El.cf (by rw [ev_at hx2]; simp [hu]) (El.grd g (El.cf (by rw [ev_at hx2]; simp [h0]) (El.ct (decide_eq_true (by omega)) h))))
     exact ⟨r,r1,r2⟩
    ·have hc2:c<d.fL.length:=by omega
     have gc:(0:Int)≤kx∧kx<(d.fL.length:Int):=⟨by omega,by omega⟩
     have pre:∀ {kx'} {r},ltOf posC (pos (tb d.fL) (ev d.fL c).fID) (pos (tb d.fL) (ev d.fL x).fID)=(decide (kx'=(x:Int)):Bool)→(kx'=(x:Int)∨kx'=kx)→El (fun k j=>r09_Last.l0 k d u j kx' (w64 ((x:Int)+1))) r→El (fun k j=>cond (!decide (((Event.K.at d.fL (x:Int)).fUser)=u)) (r09_Last.l0 k d u j kx (w64 ((x:Int)+1))) (grd ((0:Int)≤(x:Int)∧(x:Int)<(d.fL.length:Int)) (cond (((Event.K.at d.fL (x:Int)).fDoes)==0) (r09_Last.l0 k d u j kx (w64 ((x:Int)+1))) (cond (decide (kx<0)) (r09_Last.l0 k d u j (x:Int) (w64 ((x:Int)+1))) (grd ((0:Int)≤kx∧kx<(d.fL.length:Int)) ((r07_Position.f k d ((Event.K.at d.fL kx).fID)).bind fun t625=>grd ((0:Int)≤(x:Int)∧(x:Int)<(d.fL.length:Int)) ((r07_Position.f k d ((Event.K.at d.fL (x:Int)).fID)).bind fun t628=>(r07_Before.f t625 t628).bind fun t630=>cond t630 (r09_Last.l0 k d u j (x:Int) (w64 ((x:Int)+1))) (r09_Last.l0 k d u j kx (w64 ((x:Int)+1)))))))))) r:=fun {kx' r} hlt hk h=>by
      have ec:Event.K.at d.fL kx=ev d.fL c:=by rw [h1]; exact ev_at hc2
      refine El.cf (by rw [ev_at hx2]; simp [hu]) (El.grd g (El.cf (by rw [ev_at hx2]; simp [h0]) (El.cf (decide_eq_false (by omega)) (El.grd gc ?_))))
      rw [ec,ev_at hx2]
      refine El.bind (rpos_ev hg _).el (El.grd g (El.bind (rpos_ev hg _).el (El.bind (Ev.of (before_ev _ _)).el ?_)))
      rw [hlt]
      rcases hk with hk | hk
      ·rw [hk] at h ⊢
       exact El.ct (by simp) h
      ·rw [hk] at h ⊢
       exact El.cf (decide_eq_false (by omega)) h
     cases hlt:ltOf posC (pos (tb d.fL) (ev d.fL c).fID) (pos (tb d.fL) (ev d.fL x).fID) with
     | true=>
      obtain ⟨r,r1,r2⟩:=key (x:Int) (.inr ⟨x,rfl,by omega,hr,fun i hi hr'=>by
       rcases Nat.lt_or_ge i x with k | k
       ·rcases h4 i k hr' with q | q
        ·rw [q]; exact .inr hlt
        ·exact .inr (lt_tr q hlt)
       ·obtain rfl:i=x:=by omega
        exact .inl rfl⟩) (fun r h=>pre (kx':=(x:Int)) (by rw [hlt]; simp) (.inl rfl) h)
      exact ⟨r,r1,r2⟩
     | false=>
      obtain ⟨r,r1,r2⟩:=key kx (.inr ⟨c,h1,by omega,h3,fun i hi hr'=>by
       rcases Nat.lt_or_ge i x with k | k
       ·exact h4 i k hr'
       ·obtain rfl:i=x:=by omega
        cases h5:ltOf posC (pos (tb d.fL) (ev d.fL i).fID) (pos (tb d.fL) (ev d.fL c).fID) with
        | true=>exact .inr h5
        | false=>
         have:=congrArg Pos.fID (posC_tot _ _ h5 hlt)
         have h6:(ev d.fL i).fID=(ev d.fL c).fID:=this
         have h7:=ix_of hg.good hx2
         rw [h6,ix_of hg.good hc2] at h7
         omega⟩) (fun r h=>pre (kx':=kx) (by rw [hlt]; exact (decide_eq_false (by omega)).symm) (.inr rfl) h)
      exact ⟨r,r1,r2⟩
  ·have hr:isRel u (ev d.fL x)=false:=by unfold isRel; simp [hu]
   obtain ⟨r,r1,r2⟩:=key kx (stay hr) (fun r h=>El.ct (by rw [ev_at hx2]; simp [hu]) h)
   exact ⟨r,r1,r2⟩
theorem rlast_ev (u:ByteArray):Ev (fun k=>r09_Last.f k d u) (pr (lastR u (allE (tb d.fL)) none)):=by
 obtain ⟨r,r1,r2⟩:=rlast_loop hg u _ 0 rfl (by omega) (-1) (.inl ⟨rfl,fun i hi=>by omega⟩)
 have hmx:=last_all hg.good u
 unfold r09_Last.f
 refine Ev.bind r1.diag ?_
 rcases r2 with ⟨h1,h2⟩ | ⟨c,h1,h2,h3,h4⟩
 ·have:lastR u (allE (tb d.fL)) none=none:=mx_uniq hmx (fun e he=>by obtain ⟨i,hi,rfl⟩:=mem_ev he; exact h2 i hi)
  rw [this,h1]
  exact Ev.ct rfl Ev.pure
 ·have:lastR u (allE (tb d.fL)) none=some (ev d.fL c):=mx_uniq hmx ⟨ev_mem h2,h3,fun e he=>by obtain ⟨i,hi,rfl⟩:=mem_ev he; exact h4 i hi⟩
  rw [this,h1]
  refine Ev.cf (decide_eq_false (by omega)) (Ev.grd ⟨by omega,by omega⟩ (Ev.of ?_))
  rw [ev_at h2]; rfl
def isJ:Option Event→Bool
 | some e=>e.fDoes==1
 | none=>false
theorem rjoined_ev (u:ByteArray):Ev (fun k=>r09_Joined.f k d u) (isJ (lastR u (allE (tb d.fL)) none)):=by
 unfold r09_Joined.f
 refine Ev.bind (rlast_ev hg u) ?_
 cases lastR u (allE (tb d.fL)) none with
 | none=>exact Ev.cf rfl Ev.pure
 | some e=>exact Ev.ct rfl Ev.pure
theorem rusers_loop:∀ n x:Nat,d.fL.length-x=n→x≤d.fL.length→∀ out:List ByteArray,out.length≤x→SrtT out→
  ∃ r,El (fun k j=>r09_Users.l0 k d j (x:Int) out) ((d.fL.length:Int),false,r)∧SrtT r∧r.length≤d.fL.length∧∀ u,u∈r↔u∈out∨(isJ (lastR u (allE (tb d.fL)) none)=true∧∃ i,x≤i∧i<d.fL.length∧(ev d.fL i).fUser=u):=by
 have hl:=hg.len
 intro n
 induction n with
 | zero=>
  intro x hd hx out ho hs
  obtain rfl:x=d.fL.length:=by omega
  refine ⟨out,?_,hs,ho,fun u=>⟨.inl,fun h=>h.elim id fun ⟨_,i,h1,h2,_⟩=>by omega⟩⟩
  refine El.step (fun _ _=>by rw [r09_Users.l0]) ?_
  exact El.cf (by simp) (by simpa using El.pure)
 | succ n ih=>
  intro x hd hx out ho hs
  have hx2:x<d.fL.length:=by omega
  have g:(0:Int)≤(x:Int)∧(x:Int)<(d.fL.length:Int):=⟨by omega,by omega⟩
  cases hj:isJ (lastR (ev d.fL x).fUser (allE (tb d.fL)) none) with
  | true=>
   obtain ⟨r,r1,r2,r3,r4⟩:=ih (x+1) (by omega) (by omega) (putG (ev d.fL x).fUser false out) (by have:=putG_len (ev d.fL x).fUser out false; omega) (putG_srt hs)
   refine ⟨r,?_,r2,r3,fun u=>?_⟩
   ·refine El.step (fun _ _=>by rw [r09_Users.l0]) ?_
    rw [ev_at hx2,rp_inc (show x≤1000000 by omega)]
    exact El.ct (decide_eq_true (by omega)) (El.grd g (El.bind (rjoined_ev hg _).el (El.ct hj (El.grd g (El.bind (putR_ev out _ (by omega)).el r1)))))
   ·rw [r4,putG_mem]
    constructor
    ·rintro ((⟨h1,_⟩ | ⟨h1,_⟩) | ⟨h1,i,h2,h3⟩)
     ·exact .inl h1
     ·exact .inr ⟨by rw [h1]; exact hj,x,Nat.le_refl _,hx2,h1.symm⟩
     ·exact .inr ⟨h1,i,by omega,h3⟩
    ·rintro (h1 | ⟨h1,i,h2,h3,h4⟩)
     ·by_cases e:u=(ev d.fL x).fUser
      ·exact .inl (.inr ⟨e,rfl⟩)
      ·exact .inl (.inl ⟨h1,e⟩)
     ·by_cases e:i=x
      ·subst e; exact .inl (.inr ⟨h4.symm,rfl⟩)
      ·exact .inr ⟨h1,i,by omega,h3,h4⟩
  | false=>
   obtain ⟨r,r1,r2,r3,r4⟩:=ih (x+1) (by omega) (by omega) out (by omega) hs
   refine ⟨r,?_,r2,r3,fun u=>?_⟩
   ·refine El.step (fun _ _=>by rw [r09_Users.l0]) ?_
    rw [ev_at hx2,rp_inc (show x≤1000000 by omega)]
    exact El.ct (decide_eq_true (by omega)) (El.grd g (El.bind (rjoined_ev hg _).el (El.cf hj r1)))
   ·rw [r4]
    constructor
    ·rintro (h1 | ⟨h1,i,h2,h3⟩)
     ·exact .inl h1
     ·exact .inr ⟨h1,i,by omega,h3⟩
    ·rintro (h1 | ⟨h1,i,h2,h3,h4⟩)
     ·exact .inl h1
     ·by_cases e:i=x
      ·subst e; rw [h4,h1] at hj; cases hj
      ·exact .inr ⟨h1,i,by omega,h3,h4⟩
end
section
variable {m:DDag} {L:List Event} (hg:RG L) (hT:T m=tb L)
include hg hT
theorem all_len:(allE (tb L)).length≤1000:=by rw [(all_perm hg.good).length_eq]; exact hg.len
theorem jm_get (u:ByteArray):Nd (jm (allE (tb L)))∧mget (jm (allE (tb L))) u=oj (lastR u (allE (tb L)) none):=by
 have:=j_inv (allE (tb L)) (fun e he=>hg.does e ((all_perm hg.good).mem_iff.1 he)) [] (fun _=>none) nd_nil (fun _=>rfl)
 exact ⟨this.1,this.2 u⟩
theorem oj_is (o:Option Event):decide (0<(oj o).getD 0)=isJ o∧((oj o).isSome=isJ o):=by
 cases o with
 | none=>exact ⟨rfl,rfl⟩
 | some e=>
  unfold oj isJ
  by_cases h:e.fDoes=1
  ·simp [h]
  ·simp [h]
theorem mjoined_ev (u:ByteArray):Ev (fun k=>member_Joined.f k m u) (isJ (lastR u (allE (tb L)) none)):=by
 unfold member_Joined.f
 refine Ev.bind (joined_ev (rt_of hg hT)) (Ev.of ?_)
 rw [(jm_get hg hT u).2,(oj_is hg hT _).1]
theorem last_in {u:ByteArray} (h:isJ (lastR u (allE (tb L)) none)=true):∃ i,0≤i∧i<L.length∧(ev L i).fUser=u:=by
 have:=last_all hg.good u
 cases e:lastR u (allE (tb L)) none with
 | none=>rw [e] at h; cases h
 | some x=>
  rw [e] at this
  obtain ⟨i,hi,rfl⟩:=mem_ev this.1
  have h2:=this.2.1
  unfold isRel at h2
  simp at h2
  exact ⟨i,by omega,hi,h2.1⟩
theorem users_both {room:ByteArray}:∃ us,Ev (fun k=>member_Users.f k m) us∧Ev (fun k=>r09_Users.f k ⟨room,L⟩) us∧SrtT us∧us.length≤1000∧(∀ u∈us,u.size≤maxLen)∧∀ u,u∈us↔isJ (lastR u (allE (tb L)) none)=true:=by
 have hl:=hg.len
 obtain ⟨r,r1,r2,r3,r4⟩:=rusers_loop (d:=⟨room,L⟩) hg _ 0 rfl (by omega) [] (by simp) List.Pairwise.nil
 have r4:∀ u,u∈r↔isJ (lastR u (allE (tb L)) none)=true:=fun u=>by
  rw [r4]
  exact ⟨fun h=>h.elim (fun h=>by cases h) (·.1),fun h=>.inr ⟨h,last_in hg hT h⟩⟩
 have hj:=jm_len (allE (tb L)) []
 have ha:=all_len hg hT
 have e:srtS ((jm (allE (tb L))).map (·.1))=r:=srtT_ext (srtS_nodup (jm_get hg hT ⟨#[]⟩).1) r2 fun u=>by
  rw [srtS_mem,r4,mget_some,(jm_get hg hT u).2,(oj_is hg hT _).2]
 refine ⟨r,?_,?_,r2,Nat.le_trans r3 hl,fun u hu=>?_,r4⟩
 ·unfold member_Users.f
  refine Ev.bind (joined_ev (rt_of hg hT)) (Ev.grd ?_ (Ev.of (by rw [e])))
  unfold jm
  rw [List.length_nil] at hj
  omega
 ·unfold r09_Users.f
  exact Ev.bind r1.diag Ev.pure
 ·obtain ⟨i,_,hi,rfl⟩:=last_in hg hT ((r4 u).1 hu)
  exact hg.usr _ (ev_mem hi)
theorem servers_both {room:ByteArray}:∃ r,Ev (fun k=>member_Servers.f k m) r∧Ev (fun k=>r09_Servers.f k ⟨room,L⟩) r∧SrtT r∧r.length≤1000:=by
 obtain ⟨us,u1,u2,u3,u4,u5,_⟩:=users_both hg hT (room:=room)
 obtain ⟨r,r1,r2,r3,r4,_⟩:=homes_both u5 (by omega)
 refine ⟨r,?_,?_,r3,by omega⟩
 ·unfold member_Servers.f; exact Ev.bind u1 (Ev.bind r1 Ev.pure)
 ·unfold r09_Servers.f; exact Ev.bind u2 (Ev.bind r2 Ev.pure)
end
theorem mem_drop {l:List ByteArray} {s:ByteArray} {m:Nat} (h:m<l.length):s∈l.drop m↔s=l.getD m ⟨#[]⟩∨s∈l.drop (m+1):=by rw [drop_at h,List.mem_cons]
theorem contains2 {l:List ByteArray} {s:ByteArray} (hl:l.length≤100000):Ev (fun k=>slices_Contains_string.f k l s) (inB l s):=by
 have key:∀ n m:Nat,l.length-m=n→m≤l.length→∃ r,El (fun k j=>slices_Index_string.l0 k l s j (m:Int)) r∧((s∈l.drop m∧∃ i:Nat,r = .inr (i:Int))∨(s ∉ l.drop m∧∃ x,r = .inl x)):=by
  intro n
  induction n with
  | zero=>
   intro m hd hm
   obtain rfl:m=l.length:=by omega
   refine ⟨.inl ((l.length:Int),false),?_,.inr ⟨by rw [List.drop_length]; simp,_,rfl⟩⟩
   refine El.step (fun _ _=>by rw [slices_Index_string.l0]) ?_
   exact El.cf (by simp) (by simpa using El.pure)
  | succ n ih=>
   intro m hd hm
   have hlt:m<l.length:=by omega
   by_cases h:s=l.getD m ⟨#[]⟩
   ·refine ⟨.inr (m:Int),?_,.inl ⟨(mem_drop hlt).2 (.inl h),m,rfl⟩⟩
    refine El.step (fun _ _=>by rw [slices_Index_string.l0]) ?_
    rw [rp_at]
    exact El.ct (decide_eq_true (by omega)) (El.grd ⟨by omega,by omega⟩ (El.ct (decide_eq_true h) El.pure))
   ·obtain ⟨r,r1,r2⟩:=ih (m+1) (by omega) (by omega)
    refine ⟨r,?_,?_⟩
    ·refine El.step (fun _ _=>by rw [slices_Index_string.l0]) ?_
     rw [rp_at,rp_inc (show m≤1000000 by omega)]
     exact El.ct (decide_eq_true (by omega)) (El.grd ⟨by omega,by omega⟩ (El.cf (decide_eq_false h) r1))
    ·rw [mem_drop hlt]
     rcases r2 with ⟨a,b⟩ | ⟨a,b⟩
     ·exact .inl ⟨.inr a,b⟩
     ·exact .inr ⟨fun k=>k.elim h a,b⟩
 obtain ⟨r,r1,r2⟩:=key _ 0 rfl (by omega)
 rw [List.drop_zero] at r2
 unfold slices_Contains_string.f slices_Index_string.f
 rcases r2 with ⟨a,i,rfl⟩ | ⟨a,x,rfl⟩
 ·refine Ev.bind (Ev.bind r1.diag (Ev.of rfl)) (Ev.of ?_)
  rw [inB_iff.2 a,decide_eq_true (by omega)]
 ·refine Ev.bind (Ev.bind r1.diag (Ev.of rfl)) (Ev.of ?_)
  rw [inB_no a]; rfl
theorem has2 {l:List ByteArray} {s:ByteArray} (hl:l.length≤100000):Ev (fun k=>r09_Has.f k l s) (inB l s):=by
 have key:∀ n m:Nat,l.length-m=n→m≤l.length→∃ r,El (fun k j=>r09_Has.l0 k l s j (m:Int)) r∧((s∈l.drop m∧r = .inr true)∨(s ∉ l.drop m∧∃ x,r = .inl x)):=by
  intro n
  induction n with
  | zero=>
   intro m hd hm
   obtain rfl:m=l.length:=by omega
   refine ⟨.inl ((l.length:Int),false),?_,.inr ⟨by rw [List.drop_length]; simp,_,rfl⟩⟩
   refine El.step (fun _ _=>by rw [r09_Has.l0]) ?_
   exact El.cf (by simp) (by simpa using El.pure)
  | succ n ih=>
   intro m hd hm
   have hlt:m<l.length:=by omega
   by_cases h:s=l.getD m ⟨#[]⟩
   ·refine ⟨.inr true,?_,.inl ⟨(mem_drop hlt).2 (.inl h),rfl⟩⟩
    refine El.step (fun _ _=>by rw [r09_Has.l0]) ?_
    rw [rp_at]
    exact El.ct (decide_eq_true (by omega)) (El.grd ⟨by omega,by omega⟩ (El.ct (decide_eq_true h.symm) El.pure))
   ·obtain ⟨r,r1,r2⟩:=ih (m+1) (by omega) (by omega)
    refine ⟨r,?_,?_⟩
    ·refine El.step (fun _ _=>by rw [r09_Has.l0]) ?_
     rw [rp_at,rp_inc (show m≤1000000 by omega)]
     exact El.ct (decide_eq_true (by omega)) (El.grd ⟨by omega,by omega⟩ (El.cf (decide_eq_false (fun k=>h k.symm)) r1))
    ·rw [mem_drop hlt]
     rcases r2 with ⟨a,b⟩ | ⟨a,b⟩
     ·exact .inl ⟨.inr a,b⟩
     ·exact .inr ⟨fun k=>k.elim h a,b⟩
 obtain ⟨r,r1,r2⟩:=key _ 0 rfl (by omega)
 rw [List.drop_zero] at r2
 unfold r09_Has.f
 rcases r2 with ⟨a,rfl⟩ | ⟨a,x,rfl⟩
 ·refine Ev.bind r1.diag (Ev.of ?_)
  rw [inB_iff.2 a]; rfl
 ·refine Ev.bind r1.diag (Ev.of ?_)
  rw [inB_no a]; rfl
end Go.Proofs.YtmmaijneehmbgaaGreat
