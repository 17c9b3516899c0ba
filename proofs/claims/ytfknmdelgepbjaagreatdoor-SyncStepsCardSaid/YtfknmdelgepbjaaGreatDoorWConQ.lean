import Derived.Test.YtfknmdelgepbjaaGreatDoorWConY
import Derived.Sort.Grow
import Derived.Sort.EncStr
import Derived.Lib.SlicesCompact
set_option linter.all false
namespace Go.Sp
open Go Go.Proofs
theorem ym {R:Fz} {m:Mem} {w:World} (os:Array Obj) (h:fY R m w):fY R m (Sort.grow w os):=by
 have hg:∀ b o,w.heap[b]? = some o→(Sort.grow w os).heap[b]? = some o:=fun b o hb=>by
  have:=iT hb
  show (w.heap++os)[b]? = _
  rw [Array.getElem?_append_left this]; exact hb
 exact ⟨h.os,h.tape,h.output,by have:=h.size; show _≤(w.heap++os).size; rw [Array.size_append]; omega,fun b o hb=>hg b o (h.we b o hb),h.nd,fun x hx=>hg _ _ (h.own x hx),h.CG,h.Hx⟩
def yN (off:Nat) (ds:List (List UInt8)) (cs:List Value):List Value:=(Sort.putCells encStr off ds.toArray cs.toArray).toList
theorem E9 {off:Nat} {ds:List (List UInt8)} {cs:List Value}:(yN off ds cs).length=cs.length:=by simp [yN,Sort.putCells]
theorem F0 {off:Nat} {ds:List (List UInt8)} {cs:List Value} {j:Nat} (hj:j<ds.length) (hc:off+ds.length≤cs.length):(yN off ds cs)[off+j]? = some (.string ⟨(ds.getD j []).toArray⟩):=by
 have h1:off+j<cs.length:=om
 unfold yN Sort.putCells
 rw [Array.getElem?_toList,Array.getElem?_mapIdx]
 simp only [List.getElem?_toArray,gE h1,Option.map_some]
 rw [if_pos ⟨om,by simp; omega⟩,Nat.add_sub_cancel_left]
 congr 2
 rw [List.getElem!_toArray,gD,List.getElem!_eq_getElem?_getD]; rfl
theorem F7 {R:Fz}:∀ zs:List BA,Cs.h R (zs.flatMap aw.enc) (zs.map Value.string)
 | []=>.nil
 | z::zs=>.cons rfl (F7 zs)
theorem GU {R:Fz}:∀ {zs:List BA} {vs:List Value},Cs.h R (zs.flatMap aw.enc) vs→vs=zs.map Value.string
 | [],_,h=>by cases h; rfl
 | z::zs,_,h=>by
  cases h with
  | cons a b=>
   have:=GU (zs:=zs) b
   rw [this]
   have a:_=Value.string z:=a
   rw [a]; rfl
theorem IF {R:Fz} {F:List As} {w:World} {v:Value} {xs:List BA} (hst:St R (own aw v xs::F) w):
  (∃ a,v = .slice a 0 0∧xs=[])∨∃ b off c,v = .slice (some ⟨b,off,none⟩) xs.length c∧xs.length≤c∧b<w.heap.size∧Sort.Holds encStr w b off (xs.map (·.data.toList)).toArray∧
   ∀ (ds:List (List UInt8)) (n:Nat) (os:Array Obj) (zs:List BA),ds.length=xs.length→zs.length≤ds.length→(∀ j,j<zs.length→zs.getD j ⟨#[]⟩=⟨(ds.getD j []).toArray⟩)→
    St R (own aw (.slice (some ⟨b,off,none⟩) zs.length c) zs::F) (Sort.grow (Sort.putRow encStr (Sort.ahead w n) b off ds.toArray) os):=by
 obtain ⟨m,hm,hk⟩:=hst
 rcases hm with ⟨a,e1,e2,_⟩ | ⟨b,off,c,T,fr,cs,e,hl,rfl,hc,hf,hh⟩
 ·exact .inl ⟨a,e1,e2⟩
 have hb:w.heap[b]? = some (.cells cs.toArray T fr):=hk.base.own (b,_) (List.mem_append_left _ (List.mem_singleton_self _))
 have h1:aw.sz=1:=rfl
 rw [h1] at hc hh
 simp only [Nat.mul_one] at hc hh
 have hv:=GU hh
 have hcs:off+xs.length≤cs.length:=om
 refine .inr ⟨b,off,c,e,hl,iT hb,fun j hj=>?_,fun ds n os zs hd hz hzs=>?_⟩
 ·have hj:j<xs.length:=by simpa using hj
  have h2:cs[off+j]? = some (.string xs[j]):=by
   have:=congrArg (fun l:List Value=>l[j]?) hv
   simp only [List.getElem?_map,gE hj,Option.map_some] at this
   rw [List.getElem?_take,if_pos hj,List.getElem?_drop] at this
   exact this
  constructor
  ·unfold World.cell?
   rw [hb]
   show (if (none:Option _).isSome then none else cs.toArray[off+j]?)=_
   simp only [Option.isSome_none,Bool.false_eq_true,if_false,List.getElem?_toArray,h2]
   congr 1
   rw [List.getElem!_toArray,List.getElem!_eq_getElem?_getD,List.getElem?_map,gE hj]
   rfl
  ·unfold World.frozen?
   rw [hb]
   subst hf
   simp
 ·have hb':∀ k,(Sort.putRow encStr (Sort.ahead w n) b off ds.toArray).heap[k]? = if k=b then some (.cells (yN off ds cs).toArray T fr) else w.heap[k]?:=fun k=>by
   show (w.heap.modify b _)[k]? = _
   rw [Array.getElem?_modify]
   by_cases hkb:k=b
   ·subst hkb
    rw [if_pos rfl,if_pos rfl,hb]
    simp [Sort.onCells,yN]
   ·rw [if_neg (fun e=>hkb e.symm),if_neg hkb]
  have hput:iu R ([(b,.cells (yN off ds cs).toArray T fr)]++[]) F (Sort.grow (Sort.putRow encStr (Sort.ahead w n) b off ds.toArray) os):=by
   refine iu.upd (Fz.le_refl R) (fun x hx=>ym os ?_) hk
   refine fY.set (o:=.cells cs.toArray T fr) (w:=w) (by simpa using hx) rfl rfl rfl (Nat.le_add_right _ _) (by show (w.heap.modify b _).size=_; rw [Array.size_modify]) (by rw [hb',if_pos rfl]) (fun k hne=>by rw [hb',if_neg hne])
  refine ⟨_,.inr ⟨b,off,c,T,fr,yN off ds cs,rfl,om,rfl,by rw [E9,h1,Nat.mul_one]; exact hc,hf,?_⟩,hput⟩
  rw [h1,Nat.mul_one]
  have e3:((yN off ds cs).drop off).take zs.length=zs.map Value.string:=by
   apply List.ext_getElem?
   intro j
   by_cases hj:j<zs.length
   ·rw [List.getElem?_take,if_pos hj,List.getElem?_drop,F0 om om,List.getElem?_map,gE hj]
    have:=hzs j hj
    rw [gD,gE hj] at this
    simp only [Option.map_some]
    rw [← this]; rfl
   ·rw [List.getElem?_take,if_neg hj,List.getElem?_map,List.getElem?_eq_none om]; rfl
  rw [e3]
  exact F7 zs
def pz (xs:List BA):List BA:=((xs.map (·.data.toList)).mergeSort fun x y=>decide (x≤y)).map fun l=>⟨l.toArray⟩
theorem wF (xs:List BA):(pz xs).length=xs.length:=by simp [pz,List.length_mergeSort]
theorem HN {P:Program} {f:FuncId} {p:OV} {xs:List BA}
  (h:∀ (aC off cap:Nat) (ss:List (List UInt8)) (w:World),Sort.Holds encStr w aC off ss.toArray→aC<w.heap.size→ss.length<4611686018427387904→
   Calls P f #[.slice (some ⟨aC,off,none⟩) ss.length cap] w fun e w'=>e = .returned (.tuple #[])∧∃ n os,w'=Sort.grow (Sort.putRow encStr (Sort.ahead w n) aC off (ss.mergeSort fun x y=>decide (x≤y)).toArray) os)
  (h0:∀ (q:Option Addr) (cap:Nat) (w:World),Calls P f #[.slice q 0 cap] w fun e w'=>e = .returned (.tuple #[])∧w'=w) (hl:xs.length<4611686018427387904):
  Tr P f [eq p.1] [own aw p.1 xs] (γ:=Unit) (fun _=>True) (fun _=>kZ []) (fun _=>[own aw p.1 (pz xs)]):=fun R F w us hu hst=>by
 cases hu with
 | cons ha hu=>
  cases hu
  simp only [ei] at ha
  subst ha
  rcases IF hst with ⟨a,e,hx⟩ | ⟨b,off,c,e,hc,hb,hH,hput⟩
  ·have e2:#[p.1] = #[Value.slice a 0 0]:=by rw [e]
   show Calls P f #[p.1] w _
   rw [e2]
   refine (h0 a 0 w).mono ?_
   rintro e1 w' ⟨rfl,rfl⟩
   subst hx
   have e3:pz []=[]:=by simp [pz]
   exact ⟨(),R,_,trivial,Fz.le_refl R,rfl,⟨[],rfl,.nil⟩,by rw [e3]; exact hst⟩
  ·have hlen:(xs.map (·.data.toList)).length=xs.length:=sM
   have e2:#[p.1] = #[Value.slice (some ⟨b,off,none⟩) (xs.map (·.data.toList)).length c]:=by rw [hlen,e]
   show Calls P f #[p.1] w _
   rw [e2]
   refine (h b off c (xs.map (·.data.toList)) w hH hb (by rw [hlen]; exact hl)).mono ?_
   rintro e1 w' ⟨rfl,n,os,rfl⟩
   refine ⟨(),R,_,trivial,Fz.le_refl R,rfl,⟨[],rfl,.nil⟩,?_⟩
   have:=hput ((xs.map (·.data.toList)).mergeSort fun x y=>decide (x≤y)) n os (pz xs) (by rw [List.length_mergeSort,hlen]) (by rw [wF,List.length_mergeSort,hlen]; exact Nat.le_refl _) (fun j hj=>by
    rw [wF] at hj
    unfold pz
    rw [gD,gD,List.getElem?_map,gE (by rw [List.length_mergeSort,hlen]; exact hj)]; rfl)
   rw [wF,← e] at this
   exact this
end Go.Sp
namespace Go.Sp
open Go
abbrev vI (n:Int):VP:=eq (.int .i64 n)
abbrev vS (s:BA):VP:=eq (.string s)
abbrev vB (b:Bool):VP:=eq (.bool b)
theorem oI {l l':List As} (n:Nat) (js:List Nat) (h:js.isPerm (List.range n)=true) (e:(l.take n).length=n) (e':sel (l.take n) js++l.drop n=l'):l.Perm l':=
 lK (L:=l.take n) (F:=l.drop n) js (by rw [e]; exact h) (List.take_append_drop n l) e'
theorem uF {l l':List As} (n:Nat) (js:List Nat) (d:Nat) (h:js.isPerm (List.range n)=true) (e:(l.take n).length=n) (e':(sel (l.take n) js++l.drop n).drop d=l'):∀ R w,St R l w→St R l' w:=
 vZ (L:=l.take n) (F:=l.drop n) js d (by rw [e]; exact h) (List.take_append_drop n l) e'
theorem wA {l l':List As} (n:Nat) (js:List Nat) (d:Nat) (h:js.isPerm (List.range n)=true) (e:(l.take n).length=n) (e':(sel (l.take n) js++l.drop n).drop d=l'):∀ R w,St R l w→∃ _:Unit,True∧St R l' w:=fun R w k=>⟨(),trivial,uF n js d h e e' R w k⟩
def bs:Nat→Nat→Nat→List (Nat×Bool)
 | _,0,_=>[]
 | i,n+1,m=>(i,Nat.beq (m%2) 1)::bs (i+1) n (m/2)
def bo (c b:List Nat):List (Nat×Bool):=c.map fun i=>(i,b.contains i)
def gd (ops:Array Oper) (i:Nat):Option (Nat×Bool):=match opAt ops.toList i with | some o=>o.guard | none=>none
def ds (ops:Array Oper) (i:Nat):Option Nat:=match opAt ops.toList i with | some o=>o.dst | none=>none
def gf (ops:Array Oper) (E:Env) (j:Nat):Option VP:=match opAt ops.toList j with
 | some o=>(match o.dst with | some t=>find E t | none=>none)
 | none=>none
theorem LI {ops:Array Oper} {E:Env} {j:Nat} {p:VP} (h:gf ops E j=some p):∃ o t,opAt ops.toList j=some o∧o.dst=some t∧find E t=some p:=by
 unfold gf at h
 split at h
 ·rename_i o ho
  split at h
  ·rename_i t ht; exact ⟨o,t,ho,ht,h⟩
  ·cases h
 ·cases h
theorem gg {ops:Array Oper} {E:Env} {j:Nat} {b:Bool} (h:gf ops E j=some (eq (.bool b))):fk ops E (some (j,b)):=LI h
def FA (P:Program) (s j o:Nat):Prop:=∃ fs f fd sz,P.underlying s=some (.struct fs)∧fs[j]? = some f∧P.underlying f.type=some fd∧P.cellsOf f.type=sz∧sz≠0∧f.offset=o
def SC (P:Program) (t:Nat):Prop:=∃ td,P.underlying t=some td∧qO td=false
def SG (P:Program) (t sz:Nat):Prop:=∃ td,P.underlying t=some td∧qO td=true∧P.cellsOf t=sz
def SZ (P:Program) (t sz:Nat):Prop:=∃ td,P.underlying t=some td∧P.cellsOf t=sz
theorem cE {v:Value} (h:v.oneCell'=true:=by exact rfl):lU (eq v) [eq v]:=cells_one (ah h)
theorem cA {ps:Cs} (h:A3 ps:=by (repeat (first | exact bO | refine ai (ah rfl) ?_ | refine ai dL ?_ | refine ai bH ?_ | refine ai n9 ?_))):lU (agg ps) ps:=aS h
def ZC (P:Program) (t:Nat) (qs:Cs):Prop:=∃ z,lI P t=some z∧qs=z.cells.toList.map eq
theorem pB {k:Nat} {ops:Array Oper} {pend:List (Nat×(List As→Prop))} {γ:Type} {L:γ→List As} {dr:Bool} (h:(pend.map (·.1)).all (fun i=>((Region.before ops).getD k 0).testBit i)=true:=by kernel_rfl):dr=true→∀ z∈pend,((Region.before ops).getD k 0).testBit z.1=true∨∀ b,z.2 (L b):=fun _=>fG h
theorem pC {k:Nat} {ops:Array Oper} {pend:List (Nat×(List As→Prop))} {γ:Type} {ok:γ→Prop} {L:γ→List As} {dr:Bool} (h:(pend.map (·.1)).all (fun i=>((Region.before ops).getD k 0).testBit i)=true:=by kernel_rfl):dr=true→∀ z∈pend,((Region.before ops).getD k 0).testBit z.1=true∨∀ b,ok b→z.2 (L b):=fun _=>J6 (fG h)
section
variable {P:Program} {ops:Array Oper} {n:Nat} {dr:Bool} {R0:Fz} {K:KU} {E:Env} {l:List As} {pend:List (Nat×(List As→Prop))} {rest:List (Nat×Bool)} {i d:Nat}
variable {T:TypeId} {ps:String} {af:Array Edge} {g:Option (Nat×Bool)} {x y:Operand} {p:VP}
theorem al {t:TypeId} {qs:Cs} (ho:opAt ops.toList i=some ⟨some d,.alloc t,T,ps,af,g⟩) (hg:fk ops E g) (hz:ZC P t qs) (hp:dr=true→∀ z∈pend,((Region.before ops).getD i 0).testBit z.1=true∨∀ b,z.2 (aC b t qs::l))
  (k:∀ b,Dv P ops n dr R0 K ((d,eq (.pointer (some ⟨b,0,none⟩)))::E) (aC b t qs::l) pend rest) (hkb:K.km E l pend ((i,true)::rest):=by first | exact trivial | assumption):Dv P ops n dr R0 K E l pend ((i,true)::rest):=by
 obtain ⟨z,h1,h2⟩:=hz
 exact Dv.alloc ho hg h1 h2 hp k hkb
theorem cx {f:FuncId} {as:Array Operand} {ts:Array TypeId} {vs:List VP} {pre F:List As} {γ:Type} {ok:γ→Prop} {ret:γ→VP} {post:γ→List As} {dst:Option Nat} {l2:γ→List As} (m:Nat) (js:List Nat) (hc:eX P f=true) (ht:Tr P f vs pre ok ret post)
  (hp:dr=true→∀ z∈pend,((Region.before ops).getD i 0).testBit z.1=true∨∀ b,ok b→z.2 (post b++F)) (k:∀ b,ok b→Dv P ops n dr R0 K (Sp.ext E dst (ret b)) (l2 b) pend rest) (ho:opAt ops.toList i=some ⟨dst,.call ⟨.value (.func f),as,ts⟩,T,ps,af,g⟩:=by exact rfl) (hg:fk ops E g:=by first | exact trivial | exact gg rfl) (hv:opvs E as.toList=some vs:=by exact rfl)
  (h1:js.isPerm (List.range m)=true:=by kernel_rfl) (h2:(l.take m).length=m:=by exact rfl) (h3:sel (l.take m) js++l.drop m=pre++F:=by (try simp only [List.take,List.drop,sel,List.getD_cons_zero,List.getD_cons_succ,List.cons_append,List.nil_append]); exact rfl)
  (e:∀ b,post b++F=l2 b:=by intro b; (try simp only [List.cons_append,List.nil_append]); exact rfl) (hkb:K.km E l pend ((i,true)::rest):=by first | exact trivial | assumption):Dv P ops n dr R0 K E l pend ((i,true)::rest):=
 Dv.yq l2 ho hg hc hv ht (oI m js h1 h2 h3) (funext e) (fun hd z hz=>(hp hd z hz).imp id fun q b hb=>e b ▸ q b hb) k hkb
theorem pN {f:FuncId} {as:Array Operand} {ts:Array TypeId} {vs:List VP} {B F:List As} {ret:VP} (m:Nat) (js:List Nat) (hc:eX P f=true) (ht:Tr P f vs B (γ:=Unit) (fun _=>True) (fun _=>ret) (fun _=>B))
  (k:Dv P ops n dr R0 K ((d,ret)::E) l ((i,fun l=>∃ F,l.Perm (B++F))::pend) rest) (ho:opAt ops.toList i=some ⟨some d,.call ⟨.value (.func f),as,ts⟩,T,ps,af,g⟩:=by exact rfl) (hg:fk ops E g:=by first | exact trivial | exact gg rfl) (hv:opvs E as.toList=some vs:=by exact rfl)
  (h1:js.isPerm (List.range m)=true:=by kernel_rfl) (h2:(l.take m).length=m:=by exact rfl) (h3:sel (l.take m) js++l.drop m=B++F:=by (try simp only [List.take,List.drop,sel,List.getD_cons_zero,List.getD_cons_succ,List.cons_append,List.nil_append]); exact rfl):Dv P ops n dr R0 K E l pend ((i,false)::rest):=
 Dv.calll ho hg hc hv ht (oI m js h1 h2 h3) k
theorem ap {α:Type} (Kd:Kd α) {v:Value} {xs:List α} {t e xT:TypeId} {z:Value} {by_:Nat} {l2:OV→List As} (jj:Nat) (ys:List α) (hs:wJ P Kd l p ys) (hu:P.underlying t=some (.slice e)) (hxd:P.underlying xT=some .string∨∃ e',P.underlying xT=some (.slice e'))
  (hti:∃ ti,P.info? e=some ti∧ti.size=Kd.sz∧ti.zero=some z∧ti.bytes=by_) (hb:xs.length+ys.length≤9223372036854775807∧(xs.length+ys.length)*by_≤140737488355328)
  (hp:dr=true→∀ z∈pend,((Region.before ops).getD i 0).testBit z.1=true∨∀ v':OV,z.2 (l.set jj (own Kd v'.1 (xs++ys)))) (k:∀ v':OV,Dv P ops n dr R0 K ((d,eq v'.1)::E) (l2 v') pend rest)
  (ho:opAt ops.toList i=some ⟨some d,.call ⟨.builtin .append,#[x,y],#[t,xT]⟩,T,ps,af,g⟩:=by exact rfl) (hg:fk ops E g:=by first | exact trivial | exact gg rfl) (hx:opv E x=some (eq v):=by exact rfl) (hjj:l[jj]? = some (own Kd v xs):=by exact rfl) (hy:opv E y=some p:=by exact rfl) (hzs:z.cells.size=Kd.sz:=by exact rfl) (h0:0<Kd.sz:=by decide)
  (e:∀ v':OV,l.set jj (own Kd v'.1 (xs++ys))=l2 v':=by intro v; (try simp only [List.set]); exact rfl) (hkb:K.km E l pend ((i,true)::rest):=by first | exact trivial | assumption):Dv P ops n dr R0 K E l pend ((i,true)::rest):=
 Dv.Fv l2 ho hg hx hjj hy hs hu hxd hti hzs h0 hb (funext e) (fun hd z hz=>(hp hd z hz).imp id fun q b=>e b ▸ q b) k hkb
end
section
variable {P:Program} {ops:Array Oper} {n:Nat} {dr:Bool} {R0:Fz} {K:KU} {E:Env} {l:List As} {pend:List (Nat×(List As→Prop))} {rest:List (Nat×Bool)} {i d j0:Nat} {b0:Bool}
variable {T:TypeId} {ps:String} {af:Array Edge} {g:Option (Nat×Bool)} {x y:Operand} {p:VP}
theorem ot {op:BinOp} {xT yT:TypeId} {u1 u2 v:Value} (ho:opAt ops.toList i=some ⟨some d,.binOp op xT x y yT,T,ps,af,none⟩) (hx:opv E x=some (eq u1)) (hy:opv E y=some (eq u2)) (hr:∀ {w},(do eqGuard op xT x y u1 u2; binOp op xT u1 u2:Sem Value).run P w = .ok v w)
  (k:Dv P ops n dr R0 K ((d,eq v)::E) l ((i,tt)::pend) rest):Dv P ops n dr R0 K E l pend ((i,false)::rest):=Dv.bin ho trivial hx hy (fun _=>hr) k
theorem bng {op:BinOp} {xT yT:TypeId} {u1 u2 v:Value} (ho:opAt ops.toList i=some ⟨some d,.binOp op xT x y yT,T,ps,af,some (j0,b0)⟩) (hg:gf ops E j0=some (eq (.bool b0))) (hx:opv E x=some (eq u1)) (hy:opv E y=some (eq u2)) (hr:∀ {w},(do eqGuard op xT x y u1 u2; binOp op xT u1 u2:Sem Value).run P w = .ok v w)
  (k:Dv P ops n dr R0 K ((d,eq v)::E) l ((i,tt)::pend) rest):Dv P ops n dr R0 K E l pend ((i,false)::rest):=Dv.bin ho (gg hg) hx hy (fun _=>hr) k
theorem dV {j:Nat} {qs:Cs} (ho:opAt ops.toList i=some ⟨some d,.extract x j,T,ps,af,g⟩) (hg:fk ops E g) (hx:opv E x=some (kZ qs)) (hp:qs[j]? = some p) (k:Dv P ops n dr R0 K ((d,p)::E) l ((i,tt)::pend) rest):Dv P ops n dr R0 K E l pend ((i,false)::rest):=Dv.ext ho hg hx hp k
theorem fp {s j o b off:Nat} {p:Value} (hpp:p = .pointer (some ⟨b,off,none⟩)) (ho:opAt ops.toList i=some ⟨some d,.fieldAddr s x j,T,ps,af,g⟩) (hg:fk ops E g) (hx:opv E x=some (eq p)) (hf:FA P s j o)
  (k:Dv P ops n dr R0 K ((d,eq (.pointer (some ⟨b,off+o,none⟩)))::E) l ((i,tt)::pend) rest):Dv P ops n dr R0 K E l pend ((i,false)::rest):=by
 obtain ⟨fs,f,fd,sz,h1,h2,h3,h4,h5,rfl⟩:=hf
 exact Dv.fabp hpp ho hg hx h1 h2 h3 h4 h5 k
theorem fw {s j o q:Nat} {v:Value} (ho:opAt ops.toList i=some ⟨some d,.fieldAddr s x j,T,ps,af,g⟩) (hg:fk ops E g) (hx:opv E x=some (ep v q)) (hf:FA P s j o)
  (k:Dv P ops n dr R0 K ((d,ep v (q+o))::E) l ((i,tt)::pend) rest):Dv P ops n dr R0 K E l pend ((i,false)::rest):=by
 obtain ⟨fs,f,fd,sz,h1,h2,h3,h4,h5,rfl⟩:=hf
 exact Dv.faw ho hg hx h1 h2 h3 h4 h5 k
theorem fr {s j o:Nat} {qs:Cs} (ho:opAt ops.toList i=some ⟨some d,.fieldAddr s x j,T,ps,af,g⟩) (hg:fk ops E g) (hx:opv E x=some (rp qs)) (hf:FA P s j o) (hq:Nat.ble o qs.length=true)
  (k:Dv P ops n dr R0 K ((d,rp (qs.drop o))::E) l ((i,tt)::pend) rest):Dv P ops n dr R0 K E l pend ((i,false)::rest):=by
 obtain ⟨fs,f,fd,sz,h1,h2,h3,h4,h5,rfl⟩:=hf
 exact Dv.far ho hg hx h1 h2 h3 h4 h5 (Nat.le_of_ble_eq_true hq) k
theorem kI {t:TypeId} {qs:Cs} (ho:opAt ops.toList i=some ⟨some d,.load t x,T,ps,af,g⟩) (hg:fk ops E g) (hx:opv E x=some (rp qs)) (hs:SC P t) (hp:qs[0]? = some p)
  (k:Dv P ops n dr R0 K ((d,p)::E) l ((i,tt)::pend) rest):Dv P ops n dr R0 K E l pend ((i,false)::rest):=by
 obtain ⟨td,h1,h2⟩:=hs
 exact Dv.ldr ho hg hx h1 h2 hp k
theorem iv {t:TypeId} {qs:Cs} {sz:Nat} (ho:opAt ops.toList i=some ⟨some d,.load t x,T,ps,af,g⟩) (hg:fk ops E g) (hx:opv E x=some (rp qs)) (hs:SG P t sz) (hq:Nat.ble sz qs.length=true)
  (k:Dv P ops n dr R0 K ((d,agg (qs.take sz))::E) l ((i,tt)::pend) rest):Dv P ops n dr R0 K E l pend ((i,false)::rest):=by
 obtain ⟨td,h1,h2,h3⟩:=hs
 exact Dv.ldrs ho hg hx h1 h2 h3 (Nat.le_of_ble_eq_true hq) k
theorem cl {f:FuncId} {as:Array Operand} {ts:Array TypeId} {vs:List VP} {ret:VP} (ho:opAt ops.toList i=some ⟨some d,.call ⟨.value (.func f),as,ts⟩,T,ps,af,none⟩) (hc:eX P f=true) (hv:opvs E as.toList=some vs) (ht:Pt P f vs ret)
  (k:Dv P ops n dr R0 K ((d,ret)::E) l ((i,tt)::pend) rest):Dv P ops n dr R0 K E l pend ((i,false)::rest):=Dv.call ho trivial hc hv ht k
theorem sx {t:TypeId} {sz b off:Nat} {bT:TypeId} {ps' qs:Cs} {l2:List As} (j:Nat) (ho:opAt ops.toList i=some ⟨none,.store t x y,T,ps,af,g⟩) (hg:fk ops E g)
  (hx:opv E x=some (eq (.pointer (some ⟨b,off,none⟩)))) (hy:opv E y=some p) (hq:lU p qs) (hs:SZ P t sz) (hj:l[j]? = some (aC b bT ps')) (hl:qs.length=sz) (hle:Nat.ble (off+sz) ps'.length=true)
  (hp:dr=true→∀ z∈pend,((Region.before ops).getD i 0).testBit z.1=true∨∀ _:Unit,z.2 (l.set j (aC b bT (n0 ps' off qs))))
  (k:Dv P ops n dr R0 K E l2 pend rest) (h2:l.set j (aC b bT (n0 ps' off qs))=l2:=by (try simp only [List.set,n0,List.take,List.drop,List.length,List.cons_append,List.nil_append]); exact rfl) (hkb:K.km E l pend ((i,true)::rest):=by first | exact trivial | assumption):Dv P ops n dr R0 K E l pend ((i,true)::rest):=by
 obtain ⟨td,h1,h3⟩:=hs
 subst h2
 exact Dv.stx _ ho hg hx hy hq h1 h3 hl hj (Nat.le_of_ble_eq_true hle) rfl hp k hkb
end
section
variable {P:Program} {n:Nat} {R0:Fz} {Q:Exit→Act→World→Prop} {E:Env} {l:List As} {β:Type} {κ:β→Prop}
theorem rg {id:Nat} {ops:Array Oper} (m b:Nat) (h:Dv P ops n false R0 (KU.of n R0 (Q .normal)) E l [] (bs 0 m b)) (hc:pJ ops n (bs 0 m b)=true:=by kernel_rfl):WP P n R0 (.region id ops false) Q E l:=WP.rm _ hc h
theorem dg {id:Nat} {ops:Array Oper} (hm:P.follows .mixedOrders=true) (m b:Nat) (h:Dv P ops n true R0 (KU.of n R0 (Q .normal)) E l [] (bs 0 m b)) (hc:chk ops n (bs 0 m b)=true:=by kernel_rfl):WP P n R0 (.region id ops true) Q E l:=WP.Jl hm _ hc h
theorem dgo {id:Nat} {ops:Array Oper} (hm:P.follows .mixedOrders=true) (c b:List Nat) (h:Dv P ops n true R0 (KU.of n R0 (Q .normal)) E l [] (bo c b)) (hc:chk ops n (bo c b)=true:=by kernel_rfl):WP P n R0 (.region id ops true) Q E l:=WP.Jl hm _ hc h
theorem el {α:Type} {x:Option α} {f:α→Option β} {G:Prop} (h:aU (x.bind f) κ) (k:∀ t,x=some t→aU (f t) κ→G):G:=let ⟨t,h1,h2⟩:=h.call; k t h1 h2
theorem gr {p:Prop} [Decidable p] {x:Option β} {G:Prop} (h:aU (Sp.an p x) κ) (k:p→aU x κ→G):G:=let ⟨h1,h2⟩:=h.an; k h1 h2
theorem cd {x:Operand} {c1 c2:Code} {b:Bool} {A B:Option β} (H:aU (cond b A B) κ) (hx:opv E x=some (eq (.bool b))) (h1:b=true→aU A κ→WP P n R0 c1 Q E l) (h2:b=false→aU B κ→WP P n R0 c2 Q E l):WP P n R0 (.cond x c1 c2) Q E l:=
 WP.cond hx (fun e=>h1 e (H.ct e)) (fun e=>h2 e (H.cf e))
theorem i2 {A W:Type} {p:A→W→Prop}:∀ a w,p a w→p a w:=fun _ _ h=>h
theorem rt {fn:Func} {γ:Type} {ok:γ→Prop} {ret:γ→VP} {post:γ→List As} {F:List As} {rs:List ResultVar} {ps:List VP} (hQ:∀ a w,bodyPost P fn (qD R0 ok ret post F) .ret a w→Q .ret a w) (hf:fn.results=rs.toArray) (b:γ) (m:Nat) (js:List Nat) (d:Nat) (h:bD (Bm P n E l) rs ps) (hb:ok b:=by exact trivial) (hp:ret b=oT ps:=by exact rfl)
  (h1:js.isPerm (List.range m)=true:=by kernel_rfl) (h2:(l.take m).length=m:=by exact rfl) (h3:(sel (l.take m) js++l.drop m).drop d=post b++F:=by exact rfl):WP P n R0 .ret Q E l:=
 WP.BZ hQ hf b hb h hp (uF m js d h1 h2 h3)
theorem re {fn:Func} {γ:Type} {ok:γ→Prop} {ret:γ→VP} {post:γ→List As} {F:List As} {rs:List ResultVar} {ps:List VP} (hf:fn.results=rs.toArray) (b:γ) (m:Nat) (js:List Nat) (d:Nat) (h:bD (Bm P n E l) rs ps) (hb:ok b:=by exact trivial) (hp:ret b=oT ps:=by exact rfl)
  (h1:js.isPerm (List.range m)=true:=by kernel_rfl) (h2:(l.take m).length=m:=by exact rfl) (h3:(sel (l.take m) js++l.drop m).drop d=post b++F:=by exact rfl):∀ R a w,R0.le R→nf n R a E→St R l w→bodyPost P fn (qD R0 ok ret post F) .normal a w:=
 JK hf b hb h hp (uF m js d h1 h2 h3)
theorem jn {β:Type} {C:β→Prop} {Eb:β→Env} {lb:β→List As} (b:β) (hC:C b) (hE:∀ t p,find (Eb b) t=some p→find E t=some p:=by (repeat (first | exact jU | refine cW rfl ?_))) (hl:l.Perm (lb b):=by exact List.Perm.refl _):
  ∀ R a w,R0.le R→nf n R a E→St R l w→Jn n R0 C Eb lb a w:=Jn.mk b hC hE hl
theorem bk {β:Type} {C:Nat→β→Prop} {Eb:β→Env} {lb:β→List As} (k':Nat) (b:β) (hC:C k' b) (hE:∀ t p,find (Eb b) t=some p→find E t=some p:=by (repeat (first | exact jU | refine cW rfl ?_))) (hl:l.Perm (lb b):=by exact List.Perm.refl _):
  ∀ R a w,R0.le R→nf n R a E→St R l w→xJ n R0 C Eb lb (k'+1) a w:=xJ.mk k' b (Nat.lt_succ_self _) hC hE hl
theorem wg {c:Code} {γ:Type} {ok:γ→Prop} {l0 l':γ→List As} (h:∀ R w,St R l w→∃ g,ok g∧St R (l0 g) w) (k:∀ g,ok g→WP P n R0 c Q E (l' g)) (e:∀ g,l0 g=l' g:=by intro g; (try simp only [List.eraseIdx,List.take,List.drop,sel,List.getD_cons_zero,List.getD_cons_succ,List.cons_append,List.nil_append]); exact rfl):WP P n R0 c Q E l:=
 WP.gh (jw h) fun g hg=>e g ▸ k g hg
theorem vg {ops:Array Oper} {K:KU} {pend:List (Nat×(List As→Prop))} {c:List (Nat×Bool)} {γ:Type} {ok:γ→Prop} {l0 l':γ→List As} (h:∀ R w,St R l w→∃ g,ok g∧St R (l0 g) w) (k:∀ g,ok g→Dv P ops n false R0 K E (l' g) pend c) (e:∀ g,l0 g=l' g:=by intro g; (try simp only [List.eraseIdx,List.take,List.drop,sel,List.getD_cons_zero,List.getD_cons_succ,List.cons_append,List.nil_append]); exact rfl):Dv P ops n false R0 K E l pend c:=
 Dv.gh (jw h) fun g hg=>e g ▸ k g hg
theorem ng {G:Act→World→Prop} {γ:Type} {ok:γ→Prop} {l0 l':γ→List As} (h:∀ R w,St R l w→∃ g,ok g∧St R (l0 g) w) (k:∀ g,ok g→∀ R a w,R0.le R→nf n R a E→St R (l' g) w→G a w) (e:∀ g,l0 g=l' g:=by intro g; (try simp only [List.eraseIdx,List.take,List.drop,sel,List.getD_cons_zero,List.getD_cons_succ,List.cons_append,List.nil_append]); exact rfl):∀ R a w,R0.le R→nf n R a E→St R l w→G a w:=
 Dn.gh (jw h) fun g hg=>e g ▸ k g hg
theorem pm {l l':List As} (m:Nat) (js:List Nat) (h1:js.isPerm (List.range m)=true:=by kernel_rfl) (h2:(l.take m).length=m:=by exact rfl) (h3:sel (l.take m) js++l.drop m=l':=by (try simp only [List.take,List.drop,sel,List.getD_cons_zero,List.getD_cons_succ,List.cons_append,List.nil_append]); exact rfl):l.Perm l':=oI m js h1 h2 h3
end
end Go.Sp
