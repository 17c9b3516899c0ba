import Derived.Test.YtelcbdmigiacpaaGreatConY
import Derived.Sort.Grow
import Derived.Sort.EncStr
import Derived.Lib.SlicesCompact
set_option linter.all false
namespace Go.Sp
open Go Go.Proofs
theorem wH {R:Fz} {m:Mem} {w:World} (os:Array Obj) (h:iw R m w):iw R m (Sort.grow w os):=by
 have hg:∀ b o,w.heap[b]? = some o->(Sort.grow w os).heap[b]? = some o:=λb o hb=>by
  have:=jT hb
  show(w.heap++os)[b]? = _
  rw [Array.getElem?_append_left this];exact hb
 exact⟨h.os,h.tape,h.output,by have:=h.size;show _<=(w.heap++os).size;rw [Array.size_append];omega,λb o hb=>hg b o (h.uN b o hb),h.nd,λx hx=>hg _ _ (h.own x hx),h.BY,h.Fh⟩
def xq (off:Nat) (ds:List (List UInt8)) (cs:List Value):List Value:=(Sort.putCells encStr off ds.toArray cs.toArray).toList
theorem EB {off:Nat} {ds:List (List UInt8)} {cs:List Value}:(xq off ds cs).length=cs.length:=by simp [xq,Sort.putCells]
theorem EE {off:Nat} {ds:List (List UInt8)} {cs:List Value} {j:Nat} (hj:j<ds.length) (hc:off+ds.length<=cs.length):(xq off ds cs)[off+j]? = some (.string ⟨(ds.getD j []).toArray⟩):=by
 have h1:off+j<cs.length:=om
 unfold xq Sort.putCells
 rw [Array.getElem?_toList,Array.getElem?_mapIdx]
 simp only [List.getElem?_toArray,gE h1,Option.map_some]
 rw [if_pos ⟨om,by simp;omega⟩,Nat.add_sub_cancel_left]
 congr 2
 rw [List.getElem!_toArray,gD,List.getElem!_eq_getElem?_getD];rfl
theorem Eu {R:Fz}:∀ zs:List BA,Cs.h R (zs.flatMap az.enc) (zs.map Value.string)
 | []=>.nil
 | z::zs=>.cons rfl (Eu zs)
theorem D0 {R:Fz}:∀ {zs:List BA} {vs:List Value},Cs.h R (zs.flatMap az.enc) vs->vs=zs.map Value.string
 | [],_,h=>by cases h;rfl
 | z::zs,_,h=>by
  cases h with
  | cons a b=>
   have:=D0 (zs:=zs) b
   rw [this]
   have a:_=Value.string z:=a
   rw [a];rfl
theorem B9 {R:Fz} {F:List As} {w:World} {v:Value} {xs:List BA} (hst:St R (own az v xs::F) w):
  (∃ a,v = .slice a 0 0/\xs=[])\/∃ b off c,v = .slice (some ⟨b,off,none⟩) xs.length c/\xs.length<=c/\b<w.heap.size/\Sort.Holds encStr w b off (xs.map (·.data.toList)).toArray/\
   ∀ (ds:List (List UInt8)) (n:Nat) (os:Array Obj) (zs:List BA),ds.length=xs.length->zs.length<=ds.length->(∀ j,j<zs.length->zs.getD j ⟨#[]⟩=⟨(ds.getD j []).toArray⟩)->
    St R (own az (.slice (some ⟨b,off,none⟩) zs.length c) zs::F) (Sort.grow (Sort.putRow encStr (Sort.ahead w n) b off ds.toArray) os):=by
 obtain⟨m,hm,hk⟩:=hst
 rcases hm with⟨a,e1,e2,_⟩|⟨b,off,c,T,fr,cs,e,hl,rfl,hc,hf,hh⟩
 ·exact .inl ⟨a,e1,e2⟩
 have hb:w.heap[b]? = some (.cells cs.toArray T fr):=hk.base.own (b,_) (List.mem_append_left _ (List.mem_singleton_self _))
 have h1:az.sz=1:=rfl
 rw [h1] at hc hh
 simp only [Nat.mul_one] at hc hh
 have hv:=D0 hh
 have hcs:off+xs.length<=cs.length:=om
 refine .inr ⟨b,off,c,e,hl,jT hb,λj hj=>?_,λds n os zs hd hz hzs=>?_⟩
 ·have hj:j<xs.length:=by simpa using hj
  have h2:cs[off+j]? = some (.string xs[j]):=by
   have:=congrArg (λl:List Value=>l[j]?) hv
   simp only [List.getElem?_map,gE hj,Option.map_some] at this
   rw [List.getElem?_take,if_pos hj,List.getElem?_drop] at this
   exact this
  constructor
  ·unfold World.cell?
   rw [hb]
   show(if (none:Option _).isSome then none else cs.toArray[off+j]?)=_
   simp only [Option.isSome_none,Bool.false_eq_true,if_false,List.getElem?_toArray,h2]
   congr 1
   rw [List.getElem!_toArray,List.getElem!_eq_getElem?_getD,List.getElem?_map,gE hj]
   rfl
  ·unfold World.frozen?
   rw [hb]
   subst hf
   simp
 ·have hb':∀ k,(Sort.putRow encStr (Sort.ahead w n) b off ds.toArray).heap[k]? = if k=b then some (.cells (xq off ds cs).toArray T fr) else w.heap[k]?:=λk=>by
   show(w.heap.modify b _)[k]? = _
   rw [Array.getElem?_modify]
   by_cases hkb:k=b
   ·subst hkb
    rw [if_pos rfl,if_pos rfl,hb]
    simp [Sort.onCells,xq]
   ·rw [if_neg (λe=>hkb e.symm),if_neg hkb]
  have hput:je R ([(b,.cells (xq off ds cs).toArray T fr)]++[]) F (Sort.grow (Sort.putRow encStr (Sort.ahead w n) b off ds.toArray) os):=by
   refine je.upd (Fz.le_refl R) (λx hx=>wH os ?_) hk
   refine iw.set (o:=.cells cs.toArray T fr) (w:=w) (by simpa using hx) rfl rfl rfl (Nat.le_add_right _ _) (by show(w.heap.modify b _).size=_;rw [Array.size_modify]) (by rw [hb',if_pos rfl]) (λk hne=>by rw [hb',if_neg hne])
  refine⟨_,.inr ⟨b,off,c,T,fr,xq off ds cs,rfl,om,rfl,by rw [EB,h1,Nat.mul_one];exact hc,hf,?_⟩,hput⟩
  rw [h1,Nat.mul_one]
  have e3:((xq off ds cs).drop off).take zs.length=zs.map Value.string:=by
   apply List.ext_getElem?
   intro j
   by_cases hj:j<zs.length
   ·rw [List.getElem?_take,if_pos hj,List.getElem?_drop,EE om om,List.getElem?_map,gE hj]
    have:=hzs j hj
    rw [gD,gE hj] at this
    simp only [Option.map_some]
    rw [<- this];rfl
   ·rw [List.getElem?_take,if_neg hj,List.getElem?_map,List.getElem?_eq_none om];rfl
  rw [e3]
  exact Eu zs
section
variable {α:Type}
def mgK (le:α->α->Bool):Nat->List α->List α->List α
 | 0,xs,ys=>xs++ys
 | _+1,[],ys=>ys
 | _+1,x::xs,[]=>x::xs
 | n+1,x::xs,y::ys=>if le x y then x::mgK le n xs (y::ys) else y::mgK le n (x::xs) ys
theorem AM {le:α->α->Bool}:∀ (n:Nat) (xs ys:List α),xs.length+ys.length<=n->mgK le n xs ys=List.merge xs ys le
 | 0,[],[],_=>by simp [mgK]
 | 0,x::xs,_,h=>by simp at h
 | 0,[],y::ys,h=>by simp at h
 | n+1,[],ys,_=>by simp [mgK]
 | n+1,x::xs,[],_=>by simp [mgK]
 | n+1,x::xs,y::ys,h=>by
  simp only [List.length_cons] at h
  unfold mgK List.merge
  rw [AM n xs (y::ys) (by simp only [List.length_cons];omega),AM n (x::xs) ys (by simp only [List.length_cons];omega)]
def msK (le:α->α->Bool):Nat->List α->List α
 | 0,xs=>xs
 | _+1,[]=>[]
 | _+1,[a]=>[a]
 | n+1,a::b::l=>mgK le (l.length+2) (msK le n ((a::b::l).take ((l.length+3)/2))) (msK le n ((a::b::l).drop ((l.length+3)/2)))
theorem xY {le:α->α->Bool}:∀ (n:Nat) (xs:List α),xs.length<=n->msK le n xs=xs.mergeSort le
 | 0,[],_=>by simp [msK]
 | 0,x::xs,h=>by simp at h
 | n+1,[],_=>by simp [msK]
 | n+1,[a],_=>by simp [msK]
 | n+1,a::b::l,h=>by
  simp only [List.length_cons] at h
  have h1:((a::b::l).take ((l.length+3)/2)).length=(l.length+3)/2:=by rw [List.length_take];simp only [List.length_cons];omega
  have h2:((a::b::l).drop ((l.length+3)/2)).length=l.length+2-(l.length+3)/2:=by rw [List.length_drop];rfl
  unfold msK
  rw [xY n _ (by rw [h1];omega),xY n _ (by rw [h2];omega),AM _ _ _ (by rw [List.length_mergeSort,List.length_mergeSort,h1,h2];omega)]
  conv=>rhs;rw [List.mergeSort]
  simp [List.MergeSort.Internal.splitInTwo]
end
@[irreducible] def aY (xs:List BA):List BA:=(msK (λx y:List UInt8=>decide (x<=y)) xs.length (xs.map (·.data.toList))).map λl=>⟨l.toArray⟩
theorem qN (xs:List BA):aY xs=((xs.map (·.data.toList)).mergeSort λx y=>decide (x<=y)).map λl=>⟨l.toArray⟩:=by
 unfold aY;rw [xY _ _ sM]
theorem pA (xs:List BA):(aY xs).length=xs.length:=by simp [qN,List.length_mergeSort]
theorem F8 {P:Program} {f:FuncId} {p:OV} {xs:List BA}
  (h:∀ (ar off cap:Nat) (ss:List (List UInt8)) (w:World),Sort.Holds encStr w ar off ss.toArray->ar<w.heap.size->ss.length<4611686018427387904->
   Calls P f #[.slice (some ⟨ar,off,none⟩) ss.length cap] w λe w'=>e = .returned (.tuple #[])/\∃ n os,w'=Sort.grow (Sort.putRow encStr (Sort.ahead w n) ar off (ss.mergeSort λx y=>decide (x<=y)).toArray) os)
  (h0:∀ (q:Option Addr) (cap:Nat) (w:World),Calls P f #[.slice q 0 cap] w λe w'=>e = .returned (.tuple #[])/\w'=w) (hl:xs.length<4611686018427387904):
  Tr P f [eq p.1] [own az p.1 xs] (γ:=Unit) (λ_=>True) (λ_=>lg []) (λ_=>[own az p.1 (aY xs)]):=λR F w us hu hst=>by
 cases hu with
 | cons ha hu=>
  cases hu
  simp only [ez] at ha
  subst ha
  rcases B9 hst with⟨a,e,hx⟩|⟨b,off,c,e,hc,hb,hH,hput⟩
  ·have e2:#[p.1] = #[Value.slice a 0 0]:=by rw [e]
   show Calls P f #[p.1] w _
   rw [e2]
   refine(h0 a 0 w).mono ?_
   rintro e1 w' ⟨rfl,rfl⟩
   subst hx
   have e3:aY []=[]:=by simp [qN]
   exact⟨(),R,_,trivial,Fz.le_refl R,rfl,⟨[],rfl,.nil⟩,by rw [e3];exact hst⟩
  ·have hlen:(xs.map (·.data.toList)).length=xs.length:=sM
   have e2:#[p.1] = #[Value.slice (some ⟨b,off,none⟩) (xs.map (·.data.toList)).length c]:=by rw [hlen,e]
   show Calls P f #[p.1] w _
   rw [e2]
   refine(h b off c (xs.map (·.data.toList)) w hH hb (by rw [hlen];exact hl)).mono ?_
   rintro e1 w' ⟨rfl,n,os,rfl⟩
   refine⟨(),R,_,trivial,Fz.le_refl R,rfl,⟨[],rfl,.nil⟩,?_⟩
   have:=hput ((xs.map (·.data.toList)).mergeSort λx y=>decide (x<=y)) n os (aY xs) (by rw [List.length_mergeSort,hlen]) (by rw [pA,List.length_mergeSort,hlen];exact Nat.le_refl _) (λj hj=>by
    rw [pA] at hj
    simp only [qN]
    rw [gD,gD,List.getElem?_map,gE (by rw [List.length_mergeSort,hlen];exact hj)];rfl)
   rw [pA,<- e] at this
   exact this
def l9 (xs:List BA):List BA:=(Lib.compact (xs.map (·.data.toList))).map λl=>⟨l.toArray⟩
theorem Ay {α:Type} [Inhabited α] [DecidableEq α] (zs:List α):(Lib.compact zs).length<=zs.length:=by
 unfold Lib.compact Lib.compactUpTo
 rw [List.length_map]
 exact Nat.le_trans (List.length_filter_le _ _) sM
theorem Ar {P:Program} {f:FuncId} {p:OV} {xs:List BA}
  (h:∀ (ar off cap:Nat) (zs:List (List UInt8)) (w:World),Sort.Holds encStr w ar off zs.toArray->zs.length<=9223372036854775807->zs.length<=cap->
   Calls P f #[.slice (some ⟨ar,off,none⟩) zs.length cap] w λe w'=>e = .returned (.slice (some ⟨ar,off,none⟩) (Lib.compact zs).length cap)/\∃ q,w'=Sort.putRow encStr (Sort.ahead w q) ar off (Lib.compact zs++List.replicate (zs.length-(Lib.compact zs).length) []).toArray)
  (h0:∀ (q:Option Addr) (cap:Nat) (w:World),Calls P f #[.slice q 0 cap] w λe w'=>e = .returned (.slice q 0 cap)/\w'=w) (hl:xs.length<=9223372036854775807):
  Tr P f [eq p.1] [own az p.1 xs] (γ:=OV) (λ_=>True) (λg=>eq g.1) (λg=>[own az g.1 (l9 xs)]):=λR F w us hu hst=>by
 cases hu with
 | cons ha hu=>
  cases hu
  simp only [ez] at ha
  subst ha
  rcases B9 hst with⟨a,e,hx⟩|⟨b,off,c,e,hc,hb,hH,hput⟩
  ·have e2:#[p.1] = #[Value.slice a 0 0]:=by rw [e]
   show Calls P f #[p.1] w _
   rw [e2]
   refine(h0 a 0 w).mono ?_
   rintro e1 w' ⟨rfl,rfl⟩
   subst hx
   have e3:l9 []=[]:=by simp [l9,Lib.compact,Lib.compactUpTo]
   exact⟨p,R,_,trivial,Fz.le_refl R,by rw [e],rfl,by rw [e3];exact hst⟩
  ·have hlen:(xs.map (·.data.toList)).length=xs.length:=sM
   have e2:#[p.1] = #[Value.slice (some ⟨b,off,none⟩) (xs.map (·.data.toList)).length c]:=by rw [hlen,e]
   show Calls P f #[p.1] w _
   rw [e2]
   refine(h b off c (xs.map (·.data.toList)) w hH (by rw [hlen];exact hl) (by rw [hlen];exact hc)).mono ?_
   rintro e1 w' ⟨rfl,n,rfl⟩
   have hcl:=Ay (xs.map (·.data.toList))
   have hzl:(l9 xs).length=(Lib.compact (xs.map (·.data.toList))).length:=by simp [l9]
   have:=hput (Lib.compact (xs.map (·.data.toList))++List.replicate ((xs.map (·.data.toList)).length-(Lib.compact (xs.map (·.data.toList))).length) []) n #[] (l9 xs) (by rw [List.length_append,List.length_replicate];omega) (by rw [List.length_append,hzl];omega) (λj hj=>by
    rw [hzl] at hj
    unfold l9
    rw [gD,gD,List.getElem?_map,List.getElem?_append_left hj,gE hj];rfl)
   rw [Sort.grow_empty] at this
   refine⟨⟨.slice (some ⟨b,off,none⟩) (l9 xs).length c,rfl⟩,R,_,trivial,Fz.le_refl R,rfl,?_,this⟩
   rw [hzl];rfl
end Go.Sp
namespace Go.Sp
open Go
abbrev vI (n:Int):VP:=eq (.int .i64 n)
abbrev vS (s:BA):VP:=eq (.string s)
abbrev vB (b:Bool):VP:=eq (.bool b)
theorem pN {l l':List As} (n:Nat) (js:List Nat) (h:js.isPerm (List.range n)=true) (e:(l.take n).length=n) (e':sel (l.take n) js++l.drop n=l'):l.Perm l':=
 bN (L:=l.take n) (F:=l.drop n) js (by rw [e];exact h) (List.take_append_drop n l) e'
theorem ur {l l':List As} (n:Nat) (js:List Nat) (d:Nat) (h:js.isPerm (List.range n)=true) (e:(l.take n).length=n) (e':(sel (l.take n) js++l.drop n).drop d=l'):∀ R w,St R l w->St R l' w:=
 oX (L:=l.take n) (F:=l.drop n) js d (by rw [e];exact h) (List.take_append_drop n l) e'
theorem py {l l':List As} (n:Nat) (js:List Nat) (d:Nat) (h:js.isPerm (List.range n)=true) (e:(l.take n).length=n) (e':(sel (l.take n) js++l.drop n).drop d=l'):∀ R w,St R l w->∃ _:Unit,True/\St R l' w:=λR w k=>⟨(),trivial,ur n js d h e e' R w k⟩
def bs:Nat->Nat->Nat->List (Nat×Bool)
 | _,0,_=>[]
 | i,n+1,m=>(i,Nat.beq (m%2) 1)::bs (i+1) n (m/2)
def bo (c b:List Nat):List (Nat×Bool):=c.map λi=>(i,b.contains i)
def gd (ops:Array Oper) (i:Nat):Option (Nat×Bool):=match opAt ops.toList i with | some o=>o.guard | none=>none
def ds (ops:Array Oper) (i:Nat):Option Nat:=match opAt ops.toList i with | some o=>o.dst | none=>none
def gf (ops:Array Oper) (E:Env) (j:Nat):Option VP:=match opAt ops.toList j with
 | some o=>(match o.dst with | some t=>find E t | none=>none)
 | none=>none
theorem Ic {ops:Array Oper} {E:Env} {j:Nat} {p:VP} (h:gf ops E j=some p):∃ o t,opAt ops.toList j=some o/\o.dst=some t/\find E t=some p:=by
 unfold gf at h
 split at h
 ·rename_i o ho
  split at h
  ·rename_i t ht;exact⟨o,t,ho,ht,h⟩
  ·cases h
 ·cases h
theorem gg {ops:Array Oper} {E:Env} {j:Nat} {b:Bool} (h:gf ops E j=some (eq (.bool b))):fZ ops E (some (j,b)):=Ic h
def FA (P:Program) (s j o:Nat):Prop:=∃ fs f fd sz,P.underlying s=some (.struct fs)/\fs[j]? = some f/\P.underlying f.type=some fd/\P.cellsOf f.type=sz/\sz≠0/\f.offset=o
def SC (P:Program) (t:Nat):Prop:=∃ td,P.underlying t=some td/\qe td=false
def SG (P:Program) (t sz:Nat):Prop:=∃ td,P.underlying t=some td/\qe td=true/\P.cellsOf t=sz
def SZ (P:Program) (t sz:Nat):Prop:=∃ td,P.underlying t=some td/\P.cellsOf t=sz
theorem cE {v:Value} (h:v.oneCell'=true:=by exact rfl):ma (eq v) [eq v]:=cells_one (ai h)
theorem cA {ps:Cs} (h:zO ps:=by (repeat (first | exact cN | refine ae (ai rfl) ?_ | refine ae dR ?_ | refine ae cS ?_ | refine ae oQ ?_))):ma (agg ps) ps:=bx h
def ZC (P:Program) (t:Nat) (qs:Cs):Prop:=∃ z,mz P t=some z/\qs=z.cells.toList.map eq
theorem pB {k:Nat} {ops:Array Oper} {pend:List (Nat×(List As->Prop))} {γ:Type} {L:γ->List As} {dr:Bool} (h:(pend.map (·.1)).all (λi=>((Region.before ops).getD k 0).testBit i)=true:=by kernel_rfl):dr=true->∀ z∈pend,((Region.before ops).getD k 0).testBit z.1=true\/∀ b,z.2 (L b):=λ_=>ee h
theorem pC {k:Nat} {ops:Array Oper} {pend:List (Nat×(List As->Prop))} {γ:Type} {ok:γ->Prop} {L:γ->List As} {dr:Bool} (h:(pend.map (·.1)).all (λi=>((Region.before ops).getD k 0).testBit i)=true:=by kernel_rfl):dr=true->∀ z∈pend,((Region.before ops).getD k 0).testBit z.1=true\/∀ b,ok b->z.2 (L b):=λ_=>BG (ee h)
section
variable {P:Program} {ops:Array Oper} {n:Nat} {dr:Bool} {R0:Fz} {K:KU} {E:Env} {l:List As} {pend:List (Nat×(List As->Prop))} {rest:List (Nat×Bool)} {i d:Nat}
variable {T:TypeId} {ps:String} {af:Array Edge} {g:Option (Nat×Bool)} {x y:Operand} {p:VP}
theorem al {t:TypeId} {qs:Cs} (ho:opAt ops.toList i=some ⟨some d,.alloc t,T,ps,af,g⟩) (hg:fZ ops E g) (hz:ZC P t qs) (hp:dr=true->∀ z∈pend,((Region.before ops).getD i 0).testBit z.1=true\/∀ b,z.2 (ar b t qs::l))
  (k:∀ b,Dv P ops n dr R0 K ((d,eq (.pointer (some ⟨b,0,none⟩)))::E) (ar b t qs::l) pend rest) (hkb:K.kZ E l pend ((i,true)::rest):=by first | exact trivial | assumption):Dv P ops n dr R0 K E l pend ((i,true)::rest):=by
 obtain⟨z,h1,h2⟩:=hz
 exact Dv.alloc ho hg h1 h2 hp k hkb
theorem cx {f:FuncId} {as:Array Operand} {ts:Array TypeId} {vs:List VP} {pre F:List As} {γ:Type} {ok:γ->Prop} {ret:γ->VP} {post:γ->List As} {dst:Option Nat} {l2:γ->List As} (m:Nat) (js:List Nat) (hc:fx P f=true) (ht:Tr P f vs pre ok ret post)
  (hp:dr=true->∀ z∈pend,((Region.before ops).getD i 0).testBit z.1=true\/∀ b,ok b->z.2 (post b++F)) (k:∀ b,ok b->Dv P ops n dr R0 K (Sp.ext E dst (ret b)) (l2 b) pend rest) (ho:opAt ops.toList i=some ⟨dst,.call ⟨.value (.func f),as,ts⟩,T,ps,af,g⟩:=by exact rfl) (hg:fZ ops E g:=by first | exact trivial | exact gg rfl) (hv:opvs E as.toList=some vs:=by exact rfl)
  (h1:js.isPerm (List.range m)=true:=by kernel_rfl) (h2:(l.take m).length=m:=by exact rfl) (h3:sel (l.take m) js++l.drop m=pre++F:=by (try simp only [List.take,List.drop,sel,List.getD_cons_zero,List.getD_cons_succ,List.cons_append,List.nil_append]);exact rfl)
  (e:∀ b,post b++F=l2 b:=by intro b;(try simp only [List.cons_append,List.nil_append]);exact rfl) (hkb:K.kZ E l pend ((i,true)::rest):=by first | exact trivial | assumption):Dv P ops n dr R0 K E l pend ((i,true)::rest):=
 Dv.lS l2 ho hg hc hv ht (pN m js h1 h2 h3) (funext e) (λhd z hz=>(hp hd z hz).imp id λq b hb=>e b ▸ q b hb) k hkb
theorem mH {f:FuncId} {as:Array Operand} {ts:Array TypeId} {vs:List VP} {B F:List As} {ret:VP} (m:Nat) (js:List Nat) (hc:fx P f=true) (ht:Tr P f vs B (γ:=Unit) (λ_=>True) (λ_=>ret) (λ_=>B))
  (k:Dv P ops n dr R0 K ((d,ret)::E) l ((i,λl=>∃ F,l.Perm (B++F))::pend) rest) (ho:opAt ops.toList i=some ⟨some d,.call ⟨.value (.func f),as,ts⟩,T,ps,af,g⟩:=by exact rfl) (hg:fZ ops E g:=by first | exact trivial | exact gg rfl) (hv:opvs E as.toList=some vs:=by exact rfl)
  (h1:js.isPerm (List.range m)=true:=by kernel_rfl) (h2:(l.take m).length=m:=by exact rfl) (h3:sel (l.take m) js++l.drop m=B++F:=by (try simp only [List.take,List.drop,sel,List.getD_cons_zero,List.getD_cons_succ,List.cons_append,List.nil_append]);exact rfl):Dv P ops n dr R0 K E l pend ((i,false)::rest):=
 Dv.D1 ho hg hc hv ht (pN m js h1 h2 h3) k
theorem ap {α:Type} (Kd:Kd α) {v:Value} {xs:List α} {t e xT:TypeId} {z:Value} {by_:Nat} {l2:OV->List As} (jj:Nat) (ys:List α) (hs:uO P Kd l p ys) (hu:P.underlying t=some (.slice e)) (hxd:P.underlying xT=some .string\/∃ e',P.underlying xT=some (.slice e'))
  (hti:∃ ti,P.info? e=some ti/\ti.size=Kd.sz/\ti.zero=some z/\ti.bytes=by_) (hb:xs.length+ys.length<=9223372036854775807/\(xs.length+ys.length)*by_<=140737488355328)
  (hp:dr=true->∀ z∈pend,((Region.before ops).getD i 0).testBit z.1=true\/∀ v':OV,z.2 (l.set jj (own Kd v'.1 (xs++ys)))) (k:∀ v':OV,Dv P ops n dr R0 K ((d,eq v'.1)::E) (l2 v') pend rest)
  (ho:opAt ops.toList i=some ⟨some d,.call ⟨.builtin .append,#[x,y],#[t,xT]⟩,T,ps,af,g⟩:=by exact rfl) (hg:fZ ops E g:=by first | exact trivial | exact gg rfl) (hx:opv E x=some (eq v):=by exact rfl) (hjj:l[jj]? = some (own Kd v xs):=by exact rfl) (hy:opv E y=some p:=by exact rfl) (hzs:z.cells.size=Kd.sz:=by exact rfl) (h0:0<Kd.sz:=by decide)
  (e:∀ v':OV,l.set jj (own Kd v'.1 (xs++ys))=l2 v':=by intro v;(try simp only [List.set]);exact rfl) (hkb:K.kZ E l pend ((i,true)::rest):=by first | exact trivial | assumption):Dv P ops n dr R0 K E l pend ((i,true)::rest):=
 Dv.uX l2 ho hg hx hjj hy hs hu hxd hti hzs h0 hb (funext e) (λhd z hz=>(hp hd z hz).imp id λq b=>e b ▸ q b) k hkb
end
section
variable {P:Program} {ops:Array Oper} {n:Nat} {dr:Bool} {R0:Fz} {K:KU} {E:Env} {l:List As} {pend:List (Nat×(List As->Prop))} {rest:List (Nat×Bool)} {i d j0:Nat} {b0:Bool}
variable {T:TypeId} {ps:String} {af:Array Edge} {g:Option (Nat×Bool)} {x y:Operand} {p:VP}
theorem zS (ho:opAt ops.toList i=some ⟨some d,.move x,T,ps,af,none⟩) (hx:opv E x=some p) (k:Dv P ops n dr R0 K ((d,p)::E) l ((i,tt)::pend) rest):Dv P ops n dr R0 K E l pend ((i,false)::rest):=Dv.mv ho trivial hx k
theorem Ad (ho:opAt ops.toList i=some ⟨some d,.assign x,T,ps,af,none⟩) (hx:opv E x=some p) (k:Dv P ops n dr R0 K ((d,p)::E) l ((i,tt)::pend) rest):Dv P ops n dr R0 K E l pend ((i,false)::rest):=Dv.uW ho trivial hx k
theorem rr {op:BinOp} {xT yT:TypeId} {u1 u2 v:Value} (ho:opAt ops.toList i=some ⟨some d,.binOp op xT x y yT,T,ps,af,none⟩) (hx:opv E x=some (eq u1)) (hy:opv E y=some (eq u2)) (hr:∀ {w},(do eqGuard op xT x y u1 u2;binOp op xT u1 u2:Sem Value).run P w = .ok v w)
  (k:Dv P ops n dr R0 K ((d,eq v)::E) l ((i,tt)::pend) rest):Dv P ops n dr R0 K E l pend ((i,false)::rest):=Dv.bin ho trivial hx hy (λ_=>hr) k
theorem bng {op:BinOp} {xT yT:TypeId} {u1 u2 v:Value} (ho:opAt ops.toList i=some ⟨some d,.binOp op xT x y yT,T,ps,af,some (j0,b0)⟩) (hg:gf ops E j0=some (eq (.bool b0))) (hx:opv E x=some (eq u1)) (hy:opv E y=some (eq u2)) (hr:∀ {w},(do eqGuard op xT x y u1 u2;binOp op xT u1 u2:Sem Value).run P w = .ok v w)
  (k:Dv P ops n dr R0 K ((d,eq v)::E) l ((i,tt)::pend) rest):Dv P ops n dr R0 K E l pend ((i,false)::rest):=Dv.bin ho (gg hg) hx hy (λ_=>hr) k
theorem un0 {op:UnOp} {xT:TypeId} {u1 v:Value} (ho:opAt ops.toList i=some ⟨some d,.unOp op xT x,T,ps,af,none⟩) (hx:opv E x=some (eq u1)) (hr:∀ {w},(Op.unary op u1).run P w = .ok v w) (k:Dv P ops n dr R0 K ((d,eq v)::E) l ((i,tt)::pend) rest):Dv P ops n dr R0 K E l pend ((i,false)::rest):=Dv.un ho trivial hx (λ_=>hr) k
theorem dZ {j:Nat} {qs:Cs} (ho:opAt ops.toList i=some ⟨some d,.extract x j,T,ps,af,g⟩) (hg:fZ ops E g) (hx:opv E x=some (lg qs)) (hp:qs[j]? = some p) (k:Dv P ops n dr R0 K ((d,p)::E) l ((i,tt)::pend) rest):Dv P ops n dr R0 K E l pend ((i,false)::rest):=Dv.ext ho hg hx hp k
theorem fb {s j o b off:Nat} (ho:opAt ops.toList i=some ⟨some d,.fieldAddr s x j,T,ps,af,g⟩) (hg:fZ ops E g) (hx:opv E x=some (eq (.pointer (some ⟨b,off,none⟩)))) (hf:FA P s j o)
  (k:Dv P ops n dr R0 K ((d,eq (.pointer (some ⟨b,off+o,none⟩)))::E) l ((i,tt)::pend) rest):Dv P ops n dr R0 K E l pend ((i,false)::rest):=by
 obtain⟨fs,f,fd,sz,h1,h2,h3,h4,h5,rfl⟩:=hf
 exact Dv.fab ho hg hx h1 h2 h3 h4 h5 k
theorem fp {s j o b off:Nat} {p:Value} (hpp:p = .pointer (some ⟨b,off,none⟩)) (ho:opAt ops.toList i=some ⟨some d,.fieldAddr s x j,T,ps,af,g⟩) (hg:fZ ops E g) (hx:opv E x=some (eq p)) (hf:FA P s j o)
  (k:Dv P ops n dr R0 K ((d,eq (.pointer (some ⟨b,off+o,none⟩)))::E) l ((i,tt)::pend) rest):Dv P ops n dr R0 K E l pend ((i,false)::rest):=by
 obtain⟨fs,f,fd,sz,h1,h2,h3,h4,h5,rfl⟩:=hf
 exact Dv.fabp hpp ho hg hx h1 h2 h3 h4 h5 k
theorem fw {s j o q:Nat} {v:Value} (ho:opAt ops.toList i=some ⟨some d,.fieldAddr s x j,T,ps,af,g⟩) (hg:fZ ops E g) (hx:opv E x=some (ep v q)) (hf:FA P s j o)
  (k:Dv P ops n dr R0 K ((d,ep v (q+o))::E) l ((i,tt)::pend) rest):Dv P ops n dr R0 K E l pend ((i,false)::rest):=by
 obtain⟨fs,f,fd,sz,h1,h2,h3,h4,h5,rfl⟩:=hf
 exact Dv.faw ho hg hx h1 h2 h3 h4 h5 k
theorem fr {s j o:Nat} {qs:Cs} (ho:opAt ops.toList i=some ⟨some d,.fieldAddr s x j,T,ps,af,g⟩) (hg:fZ ops E g) (hx:opv E x=some (rp qs)) (hf:FA P s j o) (hq:Nat.ble o qs.length=true)
  (k:Dv P ops n dr R0 K ((d,rp (qs.drop o))::E) l ((i,tt)::pend) rest):Dv P ops n dr R0 K E l pend ((i,false)::rest):=by
 obtain⟨fs,f,fd,sz,h1,h2,h3,h4,h5,rfl⟩:=hf
 exact Dv.far ho hg hx h1 h2 h3 h4 h5 (Nat.le_of_ble_eq_true hq) k
theorem ld {t:TypeId} {qs:Cs} {b off:Nat} {bT:TypeId} (j:Nat) (ho:opAt ops.toList i=some ⟨some d,.load t x,T,ps,af,g⟩) (hg:fZ ops E g) (hx:opv E x=some (eq (.pointer (some ⟨b,off,none⟩)))) (hs:SC P t) (hj:l[j]? = some (ar b bT qs)) (hp:qs[off]? = some p)
  (k:Dv P ops n dr R0 K ((d,p)::E) l ((i,(ar b bT qs∈·))::pend) rest):Dv P ops n dr R0 K E l pend ((i,false)::rest):=by
 obtain⟨td,h1,h2⟩:=hs
 exact Dv.ldb ho hg hx h1 h2 (ab j hj) hp k
theorem CH {t:TypeId} {qs:Cs} {b off sz:Nat} {bT:TypeId} (j:Nat) (ho:opAt ops.toList i=some ⟨some d,.load t x,T,ps,af,g⟩) (hg:fZ ops E g) (hx:opv E x=some (eq (.pointer (some ⟨b,off,none⟩)))) (hs:SG P t sz) (hj:l[j]? = some (ar b bT qs)) (hq:Nat.ble (off+sz) qs.length=true)
  (k:Dv P ops n dr R0 K ((d,agg ((qs.drop off).take sz))::E) l ((i,(ar b bT qs∈·))::pend) rest):Dv P ops n dr R0 K E l pend ((i,false)::rest):=by
 obtain⟨td,h1,h2,h3⟩:=hs
 exact Dv.ldbs ho hg hx h1 h2 h3 (ab j hj) (Nat.le_of_ble_eq_true hq) k
theorem nK {t:TypeId} {qs:Cs} (ho:opAt ops.toList i=some ⟨some d,.load t x,T,ps,af,g⟩) (hg:fZ ops E g) (hx:opv E x=some (rp qs)) (hs:SC P t) (hp:qs[0]? = some p)
  (k:Dv P ops n dr R0 K ((d,p)::E) l ((i,tt)::pend) rest):Dv P ops n dr R0 K E l pend ((i,false)::rest):=by
 obtain⟨td,h1,h2⟩:=hs
 exact Dv.ldr ho hg hx h1 h2 hp k
theorem mY {t:TypeId} {qs:Cs} {sz:Nat} (ho:opAt ops.toList i=some ⟨some d,.load t x,T,ps,af,g⟩) (hg:fZ ops E g) (hx:opv E x=some (rp qs)) (hs:SG P t sz) (hq:Nat.ble sz qs.length=true)
  (k:Dv P ops n dr R0 K ((d,agg (qs.take sz))::E) l ((i,tt)::pend) rest):Dv P ops n dr R0 K E l pend ((i,false)::rest):=by
 obtain⟨td,h1,h2,h3⟩:=hs
 exact Dv.ldrs ho hg hx h1 h2 h3 (Nat.le_of_ble_eq_true hq) k
theorem cl {f:FuncId} {as:Array Operand} {ts:Array TypeId} {vs:List VP} {ret:VP} (ho:opAt ops.toList i=some ⟨some d,.call ⟨.value (.func f),as,ts⟩,T,ps,af,none⟩) (hc:fx P f=true) (hv:opvs E as.toList=some vs) (ht:Pt P f vs ret)
  (k:Dv P ops n dr R0 K ((d,ret)::E) l ((i,tt)::pend) rest):Dv P ops n dr R0 K E l pend ((i,false)::rest):=Dv.call ho trivial hc hv ht k
theorem sx {t:TypeId} {sz b off:Nat} {bT:TypeId} {ps' qs:Cs} {l2:List As} (j:Nat) (ho:opAt ops.toList i=some ⟨none,.store t x y,T,ps,af,g⟩) (hg:fZ ops E g)
  (hx:opv E x=some (eq (.pointer (some ⟨b,off,none⟩)))) (hy:opv E y=some p) (hq:ma p qs) (hs:SZ P t sz) (hj:l[j]? = some (ar b bT ps')) (hl:qs.length=sz) (hle:Nat.ble (off+sz) ps'.length=true)
  (hp:dr=true->∀ z∈pend,((Region.before ops).getD i 0).testBit z.1=true\/∀ _:Unit,z.2 (l.set j (ar b bT (oO ps' off qs))))
  (k:Dv P ops n dr R0 K E l2 pend rest) (h2:l.set j (ar b bT (oO ps' off qs))=l2:=by (try simp only [List.set,oO,List.take,List.drop,List.length,List.cons_append,List.nil_append]);exact rfl) (hkb:K.kZ E l pend ((i,true)::rest):=by first | exact trivial | assumption):Dv P ops n dr R0 K E l pend ((i,true)::rest):=by
 obtain⟨td,h1,h3⟩:=hs
 subst h2
 exact Dv.stx _ ho hg hx hy hq h1 h3 hl hj (Nat.le_of_ble_eq_true hle) rfl hp k hkb
end
section
variable {P:Program} {n:Nat} {R0:Fz} {Q:Exit->Act->World->Prop} {E:Env} {l:List As} {β:Type} {κ:β->Prop}
theorem rg {id:Nat} {ops:Array Oper} (m b:Nat) (h:Dv P ops n false R0 (KU.of n R0 (Q .normal)) E l [] (bs 0 m b)) (hc:pZ ops n (bs 0 m b)=true:=by kernel_rfl):WP P n R0 (.region id ops false) Q E l:=WP.qB _ hc h
theorem dg {id:Nat} {ops:Array Oper} (hm:P.follows .mixedOrders=true) (m b:Nat) (h:Dv P ops n true R0 (KU.of n R0 (Q .normal)) E l [] (bs 0 m b)) (hc:chk ops n (bs 0 m b)=true:=by kernel_rfl):WP P n R0 (.region id ops true) Q E l:=WP.Gb hm _ hc h
theorem dgo {id:Nat} {ops:Array Oper} (hm:P.follows .mixedOrders=true) (c b:List Nat) (h:Dv P ops n true R0 (KU.of n R0 (Q .normal)) E l [] (bo c b)) (hc:chk ops n (bo c b)=true:=by kernel_rfl):WP P n R0 (.region id ops true) Q E l:=WP.Gb hm _ hc h
theorem el {α:Type} {x:Option α} {f:α->Option β} {G:Prop} (h:aW (x.bind f) κ) (k:∀ t,x=some t->aW (f t) κ->G):G:=let ⟨t,h1,h2⟩:=h.call;k t h1 h2
theorem gr {p:Prop} [Decidable p] {x:Option β} {G:Prop} (h:aW (Sp.aF p x) κ) (k:p->aW x κ->G):G:=let ⟨h1,h2⟩:=h.aF;k h1 h2
theorem cd {x:Operand} {c1 c2:Code} {b:Bool} {A B:Option β} (H:aW (cond b A B) κ) (hx:opv E x=some (eq (.bool b))) (h1:b=true->aW A κ->WP P n R0 c1 Q E l) (h2:b=false->aW B κ->WP P n R0 c2 Q E l):WP P n R0 (.cond x c1 c2) Q E l:=
 WP.cond hx (λe=>h1 e (H.ct e)) (λe=>h2 e (H.cf e))
theorem i2 {A W:Type} {p:A->W->Prop}:∀ a w,p a w->p a w:=λ_ _ h=>h
theorem rt {fn:Func} {γ:Type} {ok:γ->Prop} {ret:γ->VP} {post:γ->List As} {F:List As} {rs:List ResultVar} {ps:List VP} (hQ:∀ a w,bodyPost P fn (qH R0 ok ret post F) .ret a w->Q .ret a w) (hf:fn.results=rs.toArray) (b:γ) (m:Nat) (js:List Nat) (d:Nat) (h:bV (zP P n E l) rs ps) (hb:ok b:=by exact trivial) (hp:ret b=pv ps:=by exact rfl)
  (h1:js.isPerm (List.range m)=true:=by kernel_rfl) (h2:(l.take m).length=m:=by exact rfl) (h3:(sel (l.take m) js++l.drop m).drop d=post b++F:=by exact rfl):WP P n R0 .ret Q E l:=
 WP.u7 hQ hf b hb h hp (ur m js d h1 h2 h3)
theorem re {fn:Func} {γ:Type} {ok:γ->Prop} {ret:γ->VP} {post:γ->List As} {F:List As} {rs:List ResultVar} {ps:List VP} (hf:fn.results=rs.toArray) (b:γ) (m:Nat) (js:List Nat) (d:Nat) (h:bV (zP P n E l) rs ps) (hb:ok b:=by exact trivial) (hp:ret b=pv ps:=by exact rfl)
  (h1:js.isPerm (List.range m)=true:=by kernel_rfl) (h2:(l.take m).length=m:=by exact rfl) (h3:(sel (l.take m) js++l.drop m).drop d=post b++F:=by exact rfl):∀ R a w,R0.le R->od n R a E->St R l w->bodyPost P fn (qH R0 ok ret post F) .normal a w:=
 Gg hf b hb h hp (ur m js d h1 h2 h3)
theorem jn {β:Type} {C:β->Prop} {Eb:β->Env} {lb:β->List As} (b:β) (hC:C b) (hE:∀ t p,find (Eb b) t=some p->find E t=some p:=by (repeat (first | exact dD | refine aH rfl ?_))) (hl:l.Perm (lb b):=by exact List.Perm.refl _):
  ∀ R a w,R0.le R->od n R a E->St R l w->Jn n R0 C Eb lb a w:=Jn.mk b hC hE hl
theorem bk {β:Type} {C:Nat->β->Prop} {Eb:β->Env} {lb:β->List As} (k':Nat) (b:β) (hC:C k' b) (hE:∀ t p,find (Eb b) t=some p->find E t=some p:=by (repeat (first | exact dD | refine aH rfl ?_))) (hl:l.Perm (lb b):=by exact List.Perm.refl _):
  ∀ R a w,R0.le R->od n R a E->St R l w->qt n R0 C Eb lb (k'+1) a w:=qt.mk k' b (Nat.lt_succ_self _) hC hE hl
theorem wg {c:Code} {γ:Type} {ok:γ->Prop} {l0 l':γ->List As} (h:∀ R w,St R l w->∃ g,ok g/\St R (l0 g) w) (k:∀ g,ok g->WP P n R0 c Q E (l' g)) (e:∀ g,l0 g=l' g:=by intro g;(try simp only [List.eraseIdx,List.take,List.drop,sel,List.getD_cons_zero,List.getD_cons_succ,List.cons_append,List.nil_append]);exact rfl):WP P n R0 c Q E l:=
 WP.gh (bL h) λg hg=>e g ▸ k g hg
theorem vg {ops:Array Oper} {K:KU} {pend:List (Nat×(List As->Prop))} {c:List (Nat×Bool)} {γ:Type} {ok:γ->Prop} {l0 l':γ->List As} (h:∀ R w,St R l w->∃ g,ok g/\St R (l0 g) w) (k:∀ g,ok g->Dv P ops n false R0 K E (l' g) pend c) (e:∀ g,l0 g=l' g:=by intro g;(try simp only [List.eraseIdx,List.take,List.drop,sel,List.getD_cons_zero,List.getD_cons_succ,List.cons_append,List.nil_append]);exact rfl):Dv P ops n false R0 K E l pend c:=
 Dv.gh (bL h) λg hg=>e g ▸ k g hg
theorem ng {G:Act->World->Prop} {γ:Type} {ok:γ->Prop} {l0 l':γ->List As} (h:∀ R w,St R l w->∃ g,ok g/\St R (l0 g) w) (k:∀ g,ok g->∀ R a w,R0.le R->od n R a E->St R (l' g) w->G a w) (e:∀ g,l0 g=l' g:=by intro g;(try simp only [List.eraseIdx,List.take,List.drop,sel,List.getD_cons_zero,List.getD_cons_succ,List.cons_append,List.nil_append]);exact rfl):∀ R a w,R0.le R->od n R a E->St R l w->G a w:=
 Dn.gh (bL h) λg hg=>e g ▸ k g hg
theorem pm {l l':List As} (m:Nat) (js:List Nat) (h1:js.isPerm (List.range m)=true:=by kernel_rfl) (h2:(l.take m).length=m:=by exact rfl) (h3:sel (l.take m) js++l.drop m=l':=by (try simp only [List.take,List.drop,sel,List.getD_cons_zero,List.getD_cons_succ,List.cons_append,List.nil_append]);exact rfl):l.Perm l':=pN m js h1 h2 h3
end
end Go.Sp
