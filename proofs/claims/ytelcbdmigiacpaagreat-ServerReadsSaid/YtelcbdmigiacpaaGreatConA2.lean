import Derived.Test.YtelcbdmigiacpaaGreatConQ
import Derived.Test.YtelcbdmigiacpaaGreatConR
import Derived.Shelf.SlSortCmp.NoneTotal
set_option linter.all false
namespace Go.Sp
open Go Go.Proofs Go.Sort
theorem Pt.FZ {P:Program} {g:Nat} {α:Type} [Inhabited α] {K:Kd α} {ev:α->List Value} (hev:∀ x,K.enc x=(ev x).map eq) {cf:α->α->Int} (h:∀ x y,Pt P g [agg (K.enc x),agg (K.enc y)] (eq (.int .i64 (cf x y)))) (k ar off size:Nat) (w:World):
  CmpLays P g #[] ev k cf ar off size w:=λm os dk _ x y=>by
 generalize sortWorldK ev k w ar off m dk os=W
 have hu:∀ z,(agg (K.enc z)).p (full W) (.agg (ev z).toArray):=λz=>⟨ev z,rfl,by rw [hev];exact mL _⟩
 refine(h x y (full W) [] W [.agg (ev x).toArray,.agg (ev y).toArray] (.cons (hu x) (.cons (hu y) .nil)) (Br W)).mono ?_
 rintro e w' ⟨R',v,hR,rfl,hv,hs⟩
 have hb:=hs.base
 have e0:R'.w0=W:=hR.1.symm
 have hv:v = .int .i64 (cf x y):=hv
 refine⟨by rw [hv],w'.drawn-W.drawn,w'.heap.extract W.heap.size w'.heap.size,?_⟩
 have h1:W.drawn<=w'.drawn:=by have:=hb.Fh;rwa [e0] at this
 have h2:W.heap.size<=w'.heap.size:=by have:=hb.size;rwa [e0] at this
 have h3:W.heap++w'.heap.extract W.heap.size w'.heap.size=w'.heap:=by
  apply Array.ext
  ·simp;omega
  ·intro i i1 i2
   rw [Array.getElem_append]
   split
   ·rename_i hi
    have:=hb.uN i _ (hR.2 i _ (Array.getElem?_eq_getElem hi))
    exact(Array.getElem?_eq_some_iff.1 this).2.symm
   ·rw [Array.getElem_extract]
    congr 1;omega
 obtain⟨heap,tape,drawn,os',output⟩:=w'
 obtain⟨heap2,tape2,drawn2,os2,output2⟩:=W
 have a1:=hb.os
 have a2:=hb.tape
 have a3:=hb.output
 rw [e0] at a1 a2 a3
 simp only at a1 a2 a3 h1 h3
 subst a1 a2 a3
 show _=({ heap:=_,.. }:World)
 unfold World.drewN
 simp only [World.mk.injEq]
 exact⟨h3.symm,trivial,om,trivial,trivial⟩
section
variable {α:Type} [Inhabited α] {K:Kd α} {ev:α->List Value} {k:Nat}
theorem zL (hk:∀ x,(ev x).length=k) (h0:0<k):∀ (xs:List α) (t:Nat),t<xs.length*k->(xs.flatMap ev)[t]? = some ((ev (xs.getD (t/k) default)).getD (t%k) default)
 | [],t,h=>by simp at h
 | x::xs,t,h=>by
  rw [List.flatMap_cons]
  by_cases ht:t<k
  ·rw [List.getElem?_append_left (by rw [hk];exact ht),Nat.div_eq_of_lt ht,Nat.mod_eq_of_lt ht]
   have:t<(ev x).length:=by rw [hk];exact ht
   rw [gE this]
   show _=some ((ev x).getD t default)
   rw [gD,gE this];rfl
  ·obtain⟨u,rfl⟩:∃ u,t=u+k:=⟨t-k,om⟩
   rw [List.getElem?_append_right (by rw [hk];omega),hk,Nat.add_sub_cancel,zL hk h0 xs u (by rw [List.length_cons,Nat.add_mul,Nat.one_mul] at h;omega),Nat.add_div_right u h0,Nat.add_mod_right]
   rfl
theorem uY (hk:∀ x,(ev x).length=k) (h0:0<k) (d:Array α):(flatK ev k d).toList=d.toList.flatMap ev:=by
 apply List.ext_getElem?
 intro t
 by_cases h:t<d.size*k
 ·rw [zL hk h0 _ t (by simpa using h)]
  have:=get_flatK ev k d t h
  have hs:t<(flatK ev k d).size:=by simpa using h
  rw [getElem!_pos _ t hs] at this
  rw [Array.getElem?_toList,Array.getElem?_eq_getElem hs,this]
  congr 1
  have e9:d[t/k]! = d.toList.getD (t/k) default:=by rw [Array.getElem!_eq_getD,Array.getD_eq_getD_getElem?,gD,Array.getElem?_toList]
  rw [e9,List.getElem!_eq_getElem?_getD];simp only [gD]
 ·have e:(d.toList.flatMap ev).length=d.size*k:=by
   rw [List.length_flatMap]
   have:(d.toList.map λa=>(ev a).length)=List.replicate d.size k:=by
    rw [List.eq_replicate_iff]
    exact⟨sM,λb hb=>by obtain⟨a,_,rfl⟩:=List.mem_map.1 hb;exact hk a⟩
   rw [this,List.sum_replicate_nat]
  rw [List.getElem?_eq_none (by simp;omega),List.getElem?_eq_none om]
theorem DV {R:Fz} (hev:∀ x,K.enc x=(ev x).map eq):∀ xs:List α,Cs.h R (xs.flatMap K.enc) (xs.flatMap ev)
 | []=>.nil
 | x::xs=>by rw [List.flatMap_cons,List.flatMap_cons,hev];exact(mL _).append (DV hev xs)
theorem Ea {R:Fz}:∀ {us vs:List Value},Cs.h R (us.map eq) vs->vs=us
 | [],_,h=>by cases h;rfl
 | u::us,_,h=>by
  cases h with
  | cons a b=>rw [Ea b];have a:_=u:=a;rw [a]
theorem zg (hev:∀ x,K.enc x=(ev x).map eq) (xs:List α):xs.flatMap K.enc=(xs.flatMap ev).map eq:=by
 rw [List.map_flatMap];congr 1;funext x;exact hev x
theorem zo {R:Fz} {F:List As} {w:World} {v:Value} {xs:List α} (hev:∀ x,K.enc x=(ev x).map eq) (h0:0<K.sz) (hst:St R (own K v xs::F) w):
  (∃ a,v = .slice a 0 0/\xs=[])\/∃ b off c,v = .slice (some ⟨b,off,none⟩) xs.length c/\b<w.heap.size/\HoldsK ev K.sz w b off xs.toArray/\
   ∀ (ds:Array α) (n:Nat) (os:Array Obj),ds.size=xs.length->St R (own K v ds.toList::F) (sortWorldK ev K.sz w b off n ds os):=by
 have hk:∀ x,(ev x).length=K.sz:=λx=>by have:=K.len x;rw [hev,List.length_map] at this;exact this
 obtain⟨m,hm,hk2⟩:=hst
 rcases hm with⟨a,e1,e2,_⟩|⟨b,off,c,T,fr,cs,e,hl,rfl,hc,hf,hh⟩
 ·exact .inl ⟨a,e1,e2⟩
 have hb:w.heap[b]? = some (.cells cs.toArray T fr):=hk2.base.own (b,_) (List.mem_append_left _ (List.mem_singleton_self _))
 have hv:(cs.drop off).take (xs.length*K.sz)=xs.flatMap ev:=Ea (by rw [<- zg hev];exact hh)
 have hcl:xs.length*K.sz<=c*K.sz:=Nat.mul_le_mul_right _ hl
 refine .inr ⟨b,off,c,e,jT hb,λj hj=>?_,λds n os hd=>?_⟩
 ·rw [size_flatK] at hj
  have hj:j<xs.length*K.sz:=by simpa using hj
  have h2:cs[off+j]? = some ((flatK ev K.sz xs.toArray)[j]!):=by
   have e3:(flatK ev K.sz xs.toArray)[j]? = some ((flatK ev K.sz xs.toArray)[j]!):=by
    have hs:j<(flatK ev K.sz xs.toArray).size:=by simpa using hj
    rw [getElem!_pos _ j hs,Array.getElem?_eq_getElem hs]
   rw [<- e3,<- Array.getElem?_toList,uY hk h0,<- hv,List.getElem?_take,if_pos hj,List.getElem?_drop]
  constructor
  ·unfold World.cell?
   rw [hb]
   show(if (none:Option _).isSome then none else cs.toArray[off+j]?)=_
   simp only [Option.isSome_none,Bool.false_eq_true,if_false,List.getElem?_toArray,h2]
   rfl
  ·unfold World.frozen?
   rw [hb]
   subst hf
   simp
 ·generalize hG:flatK ev K.sz ds=G
  have hGs:G.size=xs.length*K.sz:=by rw [<- hG,size_flatK,hd]
  have hGl:G.toList=ds.toList.flatMap ev:=by rw [<- hG];exact uY hk h0 ds
  have hpl:((Sort.putCells id off G cs.toArray).toList).length=cs.length:=by simp [Sort.putCells]
  have hb':∀ k,(Sort.putRow id (Sort.ahead w n) b off G).heap[k]? = if k=b then some (.cells (Sort.putCells id off G cs.toArray).toList.toArray T fr) else w.heap[k]?:=λk=>by
   show(w.heap.modify b _)[k]? = _
   rw [Array.getElem?_modify]
   by_cases hkb:k=b
   ·subst hkb
    rw [if_pos rfl,if_pos rfl,hb]
    simp [Sort.onCells]
   ·rw [if_neg (λe=>hkb e.symm),if_neg hkb]
  have hput:je R ([(b,.cells (Sort.putCells id off G cs.toArray).toList.toArray T fr)]++[]) F (Sort.grow (Sort.putRow id (Sort.ahead w n) b off G) os):=by
   refine je.upd (Fz.le_refl R) (λx hx=>wH os ?_) hk2
   refine iw.set (o:=.cells cs.toArray T fr) (w:=w) (by simpa using hx) rfl rfl rfl (Nat.le_add_right _ _) (by show(w.heap.modify b _).size=_;rw [Array.size_modify]) (by rw [hb',if_pos rfl]) (λk hne=>by rw [hb',if_neg hne])
  have:sortWorldK ev K.sz w b off n ds os=Sort.grow (Sort.putRow id (Sort.ahead w n) b off G) os:=by unfold sortWorldK putRowK;rw [hG]
  rw [this]
  refine⟨_,.inr ⟨b,off,c,T,fr,(Sort.putCells id off G cs.toArray).toList,by rw [Array.length_toList,hd];exact e,by rw [Array.length_toList,hd];exact hl,rfl,by rw [hpl];exact hc,hf,?_⟩,hput⟩
  have e3:((Sort.putCells id off G cs.toArray).toList.drop off).take (ds.toList.length*K.sz)=ds.toList.flatMap ev:=by
   rw [<- hGl,Array.length_toList,hd]
   apply List.ext_getElem?
   intro j
   by_cases hj:j<xs.length*K.sz
   ·have h1:off+j<cs.length:=om
    rw [List.getElem?_take,if_pos hj,List.getElem?_drop]
    unfold Sort.putCells
    rw [Array.getElem?_toList,Array.getElem?_mapIdx]
    simp only [List.getElem?_toArray,gE h1,Option.map_some]
    rw [if_pos ⟨om,om⟩,Nat.add_sub_cancel_left,Array.getElem?_toList,Array.getElem?_eq_getElem om,getElem!_pos _ j om]
    rfl
   ·rw [List.getElem?_take,if_neg hj,List.getElem?_eq_none (by simp;omega)]
  rw [e3]
  exact DV hev _
@[irreducible] def lW (cf:α->α->Int) (xs:List α):List α:=msK (λx y=>!ltOf cf y x) xs.length xs
omit [Inhabited α] in
theorem nE (cf:α->α->Int) (xs:List α):lW cf xs=xs.mergeSort λx y=>!ltOf cf y x:=by unfold lW;exact xY _ _ (Nat.le_refl _)
theorem D4 {P:Program} {f g:FuncId} {p:OV} {xs:List α} {cf:α->α->Int} (hev:∀ x,K.enc x=(ev x).map eq) (h0:0<K.sz) (hc:∀ x y,Pt P g [agg (K.enc x),agg (K.enc y)] (eq (.int .i64 (cf x y))))
  (h:∀ (ar off cap:Nat) (d:Array α) (w:World),CmpLays P g #[] ev K.sz cf ar off d.size w->HoldsK ev K.sz w ar off d->ar<w.heap.size->d.size<4611686018427387904->
   Calls P f #[.slice (some ⟨ar,off,none⟩) d.size cap,.func (.func g) #[] #[]] w λe w'=>e = .returned (.tuple #[])/\∃ n os,w'=sortWorldK ev K.sz w ar off n (d.toList.mergeSort λx y=>!ltOf cf y x).toArray os)
  (h1:∀ (q:Option Addr) (cap:Nat) (w:World),Calls P f #[.slice q 0 cap,.func (.func g) #[] #[]] w λe w'=>e = .returned (.tuple #[])/\w'=w) (hl:xs.length<4611686018427387904):
  Tr P f [eq p.1,eq (.func (.func g) #[] #[])] [own K p.1 xs] (γ:=Unit) (λ_=>True) (λ_=>lg []) (λ_=>[own K p.1 (lW cf xs)]):=λR F w us hu hst=>by
 cases hu with
 | cons ha hu=>
  cases hu with
  | cons hb hu=>
   cases hu
   simp only [ez] at ha hb
   subst ha hb
   rcases zo hev h0 hst with⟨a,e,hx⟩|⟨b,off,c,e,hb,hH,hput⟩
   ·have e2:([p.1,.func (.func g) #[] #[]]:List Value).toArray = #[Value.slice a 0 0,.func (.func g) #[] #[]]:=by rw [e]
    rw [e2]
    refine(h1 a 0 w).mono ?_
    rintro e1 w' ⟨rfl,rfl⟩
    subst hx
    have e3:lW cf []=[]:=by simp [nE]
    exact⟨(),R,_,trivial,Fz.le_refl R,rfl,⟨[],rfl,.nil⟩,by rw [e3];exact hst⟩
   ·have e2:([p.1,.func (.func g) #[] #[]]:List Value).toArray = #[Value.slice (some ⟨b,off,none⟩) xs.toArray.size c,.func (.func g) #[] #[]]:=by rw [e];simp
    rw [e2]
    refine(h b off c xs.toArray w (Pt.FZ hev hc _ _ _ _ _) hH hb (by simpa using hl)).mono ?_
    rintro e1 w' ⟨rfl,n,os,rfl⟩
    refine⟨(),R,_,trivial,Fz.le_refl R,rfl,⟨[],rfl,.nil⟩,?_⟩
    show St R _ (sortWorldK ev K.sz w b off n (xs.mergeSort λx y=>!ltOf cf y x).toArray os)
    rw [<- nE]
    exact hput (lW cf xs).toArray n os (by simp [nE,List.length_mergeSort])
end
end Go.Sp
