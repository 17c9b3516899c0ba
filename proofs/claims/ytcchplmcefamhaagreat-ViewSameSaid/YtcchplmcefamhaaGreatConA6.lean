import Derived.Test.YtcchplmcefamhaaGreatConA2
import Derived.Test.YtcchplmcefamhaaGreatConV
import Derived.Test.YtcchplmcefamhaaGreatConS
import Derived.Test.YtcchplmcefamhaaGreatConQ
set_option linter.all false
namespace Go.Sp
open Go Go.Proofs Go.Sort
section
variable {γ β:Type}
def selM (m:List γ) (f:γ→Option β) (is:List Nat):List β:=is.filterMap fun i=>(m[i]?).bind f
theorem selM_app {m:List γ} {f:γ→Option β} {is:List Nat} {j:Nat} {e:γ} (h:m[j]? = some e):selM m f (is++[j]) = selM m f is++(f e).toList:=by
 unfold selM
 rw [List.filterMap_append]
 congr 1
 simp only [List.filterMap_cons,h,Option.bind_some,List.filterMap_nil]
 cases f e <;> rfl
theorem selM_some {m:List γ} {f:γ→Option β} {is:List Nat} {j:Nat} {e:γ} {b:β} (h:m[j]? = some e) (hb:f e = some b):selM m f is++[b] = selM m f (is++[j]):=by rw [selM_app h,hb]; rfl
theorem selM_len {m:List γ} {f:γ→Option β} {is:List Nat}:(selM m f is).length≤is.length:=List.length_filterMap_le _ _
theorem selM_all:∀ {m:List γ} {f:γ→Option β},selM m f (List.range m.length) = m.filterMap f
 | [],_=>rfl
 | e::m,f=>by
  rw [List.length_cons,List.range_succ_eq_map]
  have h:=selM_all (m:=m) (f:=f)
  unfold selM at h ⊢
  rw [List.filterMap_cons,List.filterMap_map]
  simp only [List.getElem?_cons_zero,Option.bind_some]
  have e2:((fun i=>((e::m)[i]?).bind f) ∘ Nat.succ) = fun i=>(m[i]?).bind f:=by funext i; simp
  rw [e2,h,List.filterMap_cons]
theorem selM_perm {m:List γ} {f:γ→Option β} {is:List Nat} (h:is.Perm (List.range m.length)):(selM m f is).Perm (m.filterMap f):=by
 rw [← selM_all]; exact h.filterMap _
end
section
variable {α:Type}
theorem perm_unique {le:α→α→Prop} (ha:∀ x y,le x y→le y x→x = y):∀ {xs ys:List α},xs.Perm ys→xs.Pairwise le→ys.Pairwise le→xs = ys
 | [],ys,h,_,_=>(List.nil_perm.1 h).symm
 | x::xs,[],h,_,_=>by simpa using h.length_eq
 | x::xs,y::ys,h,h1,h2=>by
  rw [List.pairwise_cons] at h1 h2
  have e:x = y:=by
   have m1:x∈y::ys:=h.mem_iff.1 (List.mem_cons_self ..)
   have m2:y∈x::xs:=h.mem_iff.2 (List.mem_cons_self ..)
   rcases List.mem_cons.1 m1 with e | m1
   ·exact e
   ·rcases List.mem_cons.1 m2 with e | m2
    ·exact e.symm
    ·exact ha _ _ (h1.1 _ m2) (h2.1 _ m1)
  subst e
  rw [perm_unique ha (List.Perm.cons_inv h) h1.2 h2.2]
variable {cf:α→α→Int}
theorem srtF_pw (hO:SWO (ltOf cf)) (xs:List α):(srtF cf xs).Pairwise (fun x y=>ltOf cf y x = false):=by
 have h:=List.pairwise_mergeSort (le:=fun x y=>!ltOf cf y x) (fun a b c h1 h2=>by
  simp only [Bool.not_eq_true'] at h1 h2 ⊢
  exact hO.ntrans c b a h2 h1) (fun a b=>by
  cases h1:ltOf cf b a with
  | false=>simp
  | true=>
   have:ltOf cf a b = false:=by
    cases h2:ltOf cf a b with
    | false=>rfl
    | true=>have h3:=hO.trans _ _ _ h1 h2; rw [hO.irrefl] at h3; cases h3
   rw [this]; rfl) xs
 exact h.imp fun {a b} h=>by simpa using h
theorem srtF_p (xs:List α):(srtF cf xs).Perm xs:=List.mergeSort_perm _ _
theorem srtF_perm (hO:SWO (ltOf cf)) (hT:∀ x y,ltOf cf x y = false→ltOf cf y x = false→x = y) {xs ys:List α} (h:xs.Perm ys):srtF cf xs = srtF cf ys:=
 perm_unique (fun x y h1 h2=>hT x y h2 h1) ((srtF_p xs).trans (h.trans (srtF_p ys).symm)) (srtF_pw hO xs) (srtF_pw hO ys)
end
theorem sLt_total {x y:ByteArray} (h1:sLt x y = false) (h2:sLt y x = false):x = y:=sLt_conn h1 h2
theorem srtS_eq {xs ys:List ByteArray} (h:xs.Perm ys):srtS xs = srtS ys:=
 perm_unique (fun _ _ h1 h2=>sLt_total h2 h1) ((srtS_perm xs).trans (h.trans (srtS_perm ys).symm)) (srtS_srt xs) (srtS_srt ys)
section
variable {κ α:Type} [DecidableEq κ] {kv:κ→Value} {O:OV→α→As} {v:Value} {m:List (κ×α)} {ps:List OV} {k:κ} {p:OV} {l r:List As} {e:κ×α} {j:Nat}
def thgX (O:OV→α→As) (m:List (κ×α)) (ps:List OV) (j:Nat):As:=⟨fun R mem=>Bs R mem ((zipO O m ps).eraseIdx j),fun hR h=>h.mono hR⟩
theorem zipO_at (hj:m[j]? = some e) (hp:ps[j]? = some p):(zipO O m ps)[j]? = some (O p e.2):=by
 unfold zipO; rw [List.getElem?_zipWith,hj,hp]
theorem zipK_at (hj:m[j]? = some e) (hp:ps[j]? = some p):(zipK m ps)[j]? = some (e.1,p):=by
 unfold zipK; rw [List.getElem?_zipWith,hj,hp]
theorem zipK_get (h:okP m ps) (hj:j < (zipK m ps).length):∃ e p,m[j]? = some e∧ps[j]? = some p∧(zipK m ps)[j]? = some (e.1,p):=by
 rw [zipK_len h.1] at hj
 have h2:j < ps.length:=by rw [h.1]; exact hj
 exact ⟨m[j],ps[j],List.getElem?_eq_getElem hj,List.getElem?_eq_getElem h2,zipK_at (List.getElem?_eq_getElem hj) (List.getElem?_eq_getElem h2)⟩
theorem thg_foc (hj:m[j]? = some e) (hp:ps[j]? = some p) (hl:l.Perm (thg O m ps::r)):∀ R w,St R l w→∃ _:Unit,True∧St R (O p e.2::thgX O m ps j::r) w:=fun R w h=>by
 obtain ⟨mem,hb,hw⟩:=(h.permL hl).to_bs
 obtain ⟨m1,m2,h1,h2,hq⟩:=hb
 obtain ⟨m3,m4,h3,h4,hq2⟩:=Bs.permL (perm_idx (zipO_at (O:=O) hj hp)) h1
 refine ⟨(),trivial,St.of_bs (m:=m3++(m4++m2)) ⟨m3,m4++m2,h3,⟨m4,m2,h4,h2,List.Perm.refl _⟩,List.Perm.refl _⟩ (hw.perm ?_)⟩
 rw [← List.append_assoc]
 exact hq.trans (hq2.append_right _)
theorem thg_unf (hj:m[j]? = some e) (hp:ps[j]? = some p) (hl:l.Perm (O p e.2::thgX O m ps j::r)):∀ R w,St R l w→∃ _:Unit,True∧St R (thg O m ps::r) w:=fun R w h=>by
 obtain ⟨mem,hb,hw⟩:=(h.permL hl).to_bs
 obtain ⟨m1,m2,h1,⟨m3,m4,h3,h4,hq2⟩,hq⟩:=hb
 refine ⟨(),trivial,St.of_bs (m:=(m1++m3)++m4) ⟨m1++m3,m4,Bs.permL (perm_idx (zipO_at (O:=O) hj hp)).symm ⟨m1,m3,h1,h3,List.Perm.refl _⟩,h4,List.Perm.refl _⟩ (hw.perm ?_)⟩
 rw [List.append_assoc]
 exact hq.trans (hq2.append_left _)
end
end Go.Sp
namespace Go.Sp
open Go
theorem Tr.unpkr {P:Program} {f:FuncId} {vs:List VP} {A L:List As} {ret:VP} (h:Tr P f vs (A++[pk L]) (γ:=Unit) (fun _=>True) (fun _=>ret) (fun _=>A++[pk L])):Tr P f vs (A++L) (γ:=Unit) (fun _=>True) (fun _=>ret) (fun _=>A++L):=fun R F w us hu hst=>by
 have h1:(A++L++F).Perm (L++(A++F)):=by
  rw [List.append_assoc,← List.append_assoc L A F,← List.append_assoc]
  exact List.perm_append_comm.append_right _
 obtain ⟨_,_,hs⟩:=st_pk h1 R w hst
 have h2:(pk L::(A++F)).Perm (A++[pk L]++F):=by
  rw [List.append_assoc]
  exact List.perm_middle.symm
 refine (h R F w us hu (hs.permL h2)).mono ?_
 rintro e w' ⟨g,R',v,hg,hR,he,hv,hst'⟩
 refine ⟨g,R',v,hg,hR,he,hv,?_⟩
 obtain ⟨_,_,hs2⟩:=st_unpk (L:=L) (l:=pk L::(A++F)) 0 rfl R' w' (hst'.permL h2.symm)
 exact hs2.permL h1.symm
end Go.Sp
namespace Go.Sp
open Go
section
variable {R:Fz} {l:List As} {α:Type} {Kd:Kd α} {v:Value} {xs:List α}
end
section
variable {P:Program} {ops:Array Oper} {n:Nat} {dr:Bool} {R0:Fz} {K:KU} {E:Env} {l:List As} {pend:List (Nat×(List As→Prop))} {rest:List (Nat×Bool)} {i d:Nat}
variable {T:TypeId} {ps:String} {af:Array Edge} {g:Option (Nat×Bool)} {x y:Operand} {α:Type} {Kd:Kd α} {v:Value} {xs:List α}
end
end Go.Sp
namespace Go.Sp
open Go
section
variable {P:Program} {ops:Array Oper} {n:Nat} {dr:Bool} {R0:Fz} {K:KU} {E:Env} {l:List As} {pend:List (Nat×(List As→Prop))} {rest:List (Nat×Bool)} {i d:Nat}
variable {T:TypeId} {ps:String} {af:Array Edge} {g:Option (Nat×Bool)} {x y y2:Operand} {κ α:Type} [DecidableEq κ] {kv:κ→Value} {vp:α→VP} {v:Value} {m:List (κ×α)} {k:κ}
end
structure FlatF (P:Program) (cs:Array Value) (f:Field):Prop where
 td:∃ td,P.underlying f.type = some td∧(td = .string∨td = .bool∨∃ k,td = .int k)
 part:∃ v,∀ w,(part f.type cs f.offset).run P w = .ok v w
section
variable {α:Type} [Inhabited α] {O:OV→α→As} {l r:List As} {p:OV} {o:Option α} {a:α}
end
end Go.Sp
namespace Go.Sp
open Go
section
variable {P:Program} {ops:Array Oper} {n:Nat} {dr:Bool} {R0:Fz} {K:KU} {E:Env} {l:List As} {pend:List (Nat×(List As→Prop))} {rest:List (Nat×Bool)} {i d:Nat}
variable {T:TypeId} {ps:String} {af:Array Edge} {g:Option (Nat×Bool)} {x y:Operand}
end
section
variable {P:Program} {f:FuncId} {fn:Func} {b off:Nat} {bT:TypeId} {qs:Cs} {n o n':Int}
end
section
variable {P:Program} {d:Nat} {r:Bool} {w:World}
end
end Go.Sp
namespace Go.Sp
open Go
section
variable (P:Program) (ops:Array Oper) (n:Nat)
def passed (ops:Array Oper) (Cb:List Nat) (c:List (Nat×Bool)) (i:Nat):Bool:=Cb.any fun k=>!(c.map (·.1)).contains k && anc ops i k
def Up (Cb:List Nat) (R0:Fz) (K:Act→World→Prop) (f:Oper) (E:Env) (l:List As) (pend:List (Nat×(List As→Prop))) (c:List (Nat×Bool)):Prop:=
 ∃ (γ:Type) (ok:γ→Prop) (p:γ→VP) (l':γ→List As),OpBar P ops n f E l ok p l'∧(∀ x∈pend,passed ops Cb c x.1 = true∨∀ g,ok g→x.2 (l' g))∧
  ∀ g,ok g→Dv P ops n true R0 (KU.of n R0 K) (ext E f.dst (p g)) (l' g) pend c
def KU.fl (Cb:List Nat) (R0:Fz) (K:Act→World→Prop) (f:Oper) (D:List (Nat×Bool)):KU:=⟨fun E l pend c=>Up P ops n Cb R0 K f E l pend (c++D),fun E l pend=>Up P ops n Cb R0 K f E l pend D⟩
end
section
variable {P:Program} {ops:Array Oper} {n:Nat} {Q:Exit→Act→World→Prop}
variable {R0:Fz} {V:Env→List As→List (Nat×(List As→Prop))→List (Nat×Bool)→Prop} {K:Act→World→Prop} {f:Oper} {R:Fz} {E:Env} {l:List As} {pend:List (Nat×(List As→Prop))} {pl:List PI} {c D:List (Nat×Bool)} {Cb:List Nat} {listed:Array Bool} {a:Act} {w:World}
def flt (ops:Array Oper) (kf:Nat) (D:List (Nat×Bool)):Bool:=match ops[kf]? with
 | some f=>f.after.isEmpty && (f.looksAt ops).isEmpty && (D.all fun x=>anc ops kf x.1) && (List.range ops.size).all fun j=>j == kf || (D.map (·.1)).contains j || (!anc ops kf j && !hits ops kf j && (match f.dst with | some d=>dstOf ops j != some d | none=>true))
 | none=>false
theorem flt_out {kf:Nat} (ho:ops[kf]? = some f) (h:flt ops kf D = true):f.after = #[]∧f.looksAt ops = []∧(∀ x∈D,anc ops kf x.1 = true)∧∀ j,j < ops.size→j≠kf→j ∉ D.map (·.1)→anc ops kf j = false∧(∀ d,f.dst = some d→d ∉ looks ops j∧dstOf ops j≠some d):=by
 unfold flt at h
 simp only [ho,Bool.and_eq_true,List.isEmpty_iff,List.all_eq_true,List.mem_range,Bool.or_eq_true,beq_iff_eq,Bool.not_eq_true',List.contains_iff_mem] at h
 obtain ⟨⟨⟨h1,h2⟩,h0⟩,h3⟩:=h
 refine ⟨by simpa using h1,h2,h0,fun j hj hne hD=>?_⟩
 obtain ⟨⟨a1,a2⟩,a3⟩:=(h3 j hj).resolve_left (fun h=>h.elim hne hD)
 refine ⟨a1,fun d hd=>⟨fun hm=>?_,?_⟩⟩
 ·unfold hits at a2
  rw [dst_of ho,hd] at a2
  simp at a2
  exact a2 hm
 ·rw [hd] at a3
  simpa using a3
def Clo (ops:Array Oper) (listed:Array Bool):Prop:=∀ j o,ops[j]? = some o→listed.getD j false = true→∀ e∈o.after,Region.binds .any e = true→listed.getD e.on false = true
theorem Clo.ancs (hb:bitsOk ops = true) (h:Clo ops listed) {j:Nat} (hj:j∈Region.ready .any ops listed):∀ i,anc ops i j = true→listed.getD i false = true:=by
 obtain ⟨_,o,ho,hdep⟩:=getD_mem_ready hj
 have key:∀ m j o,j < m→ops[j]? = some o→(∀ e∈o.after,Region.binds .any e = true→listed.getD e.on false = true)→∀ i,anc ops i j = true→listed.getD i false = true:=by
  intro m
  induction m with
  | zero=>intro j o hlt; omega
  | succ m ih=>
   intro j o hlt ho hdep i hi
   obtain ⟨e,he,heb,hei⟩:=((bits_out hb ho).1 i).1 hi
   rcases hei with rfl | hei
   ·exact hdep e he heb
   ·have hl:=(bits_out hb ho).2 e he heb
    have hon:e.on < ops.size:=by have:=(Array.getElem?_eq_some_iff.1 ho).1; omega
    obtain ⟨o',ho'⟩:∃ o',ops[e.on]? = some o':=⟨ops[e.on],Array.getElem?_eq_getElem hon⟩
    exact ih e.on o' (by omega) ho' (h e.on o' ho' (hdep e he heb)) i hei
 exact key (j + 1) j o (by omega) ho hdep
theorem Clo.set (hs:listed.size = ops.size) (h:Clo ops listed) {j:Nat} (hj:j∈Region.ready .any ops listed):Clo ops (listed.setIfInBounds j true):=by
 intro k o hk hl e he hb
 obtain ⟨h0,oj,hoj,hdep⟩:=getD_mem_ready hj
 refine getD_set_true ?_
 have hjs:j < listed.size:=by rw [hs]; exact (Array.getElem?_eq_some_iff.1 hoj).1
 rw [getD_set false hjs] at hl
 by_cases ek:k = j
 ·subst ek; rw [hoj] at hk; cases hk; exact hdep e he hb
 ·rw [if_neg ek] at hl; exact h k o hk hl e he hb
theorem Clo.up (hb:bitsOk ops = true) (h:Clo ops listed) {j:Nat} (hj:j < ops.size) (hjs:j < listed.size) (hl:listed.getD j true = true):∀ i,anc ops i j = true→listed.getD i false = true:=by
 have hl2:listed.getD j false = true:=by simp [hjs] at hl ⊢; exact hl
 have key:∀ m j,j < m→j < ops.size→listed.getD j false = true→∀ i,anc ops i j = true→listed.getD i false = true:=by
  intro m
  induction m with
  | zero=>intro j hlt; omega
  | succ m ih=>
   intro j hlt hj hl i hi
   obtain ⟨o,ho⟩:∃ o,ops[j]? = some o:=⟨ops[j],Array.getElem?_eq_getElem hj⟩
   obtain ⟨e,he,heb,hei⟩:=((bits_out hb ho).1 i).1 hi
   have hd:=h j o ho hl e he heb
   rcases hei with rfl | hei
   ·exact hd
   ·have hl3:=(bits_out hb ho).2 e he heb
    exact ih e.on (by omega) (by omega) hd i hei
 exact key (j + 1) j (by omega) hj hl2
theorem Inv.up (hn:∀ i d,dstOf ops i = some d→d < n) {kf:Nat} (ho:ops[kf]? = some f) (hf:flt ops kf D = true) (h:Inv (P:=P) (ops:=ops) (n:=n) R0 V R E l pend pl c (listed.setIfInBounds kf true) a w)
  (hb:bitsOk ops = true) (hne:∀ x∈pl,x.i≠kf∧x.i ∉ D.map (·.1)) (hPB:∀ x∈pl,x.i ∉ Cb) (hCb:∀ k∈Cb,k < ops.size) (hu:Up P ops n Cb R0 K f E l pend c) (K':Act→World→Prop)
  (next:∀ R' E' l' a' w',Inv (P:=P) (ops:=ops) (n:=n) R0 (Dv P ops n true R0 (KU.of n R0 K)) R' E' l' pend pl c (listed.setIfInBounds kf true) a' w'→K' a' w'):runs P ops f a w K' Q:=by
 obtain ⟨f1,f2,_,f3⟩:=flt_out ho hf
 obtain ⟨γ,ok,p,l',hok,hq,hdv⟩:=hu
 have apart:∀ x∈pl,∀ d,f.dst = some d→d ∉ x.o.looksAt ops∧x.o.dst≠some d:=fun x hx d hd=>by
  have hx1:=(h.pok x hx).1
  have:=(f3 x.i (Array.getElem?_eq_some_iff.1 hx1).1 (hne x hx).1 (hne x hx).2).2 d hd
  rwa [looks_of hx1,dst_of hx1] at this
 refine hok R a w h.sz h.df (fun t ht=>by rw [f2] at ht; cases ht) h.st K' Q ?_
 intro g R' v w' hg hR hv hst
 refine next R' _ _ _ w' ⟨by rw [size_put]; exact h.sz,by rw [defers_put]; exact h.df,hst,Fz.le_trans h.r0 hR,hdv g hg,h.lsz,h.un,h.lt,h.closed,fun x hx=>?_,h.pw,h.irr,fun t ht r hr=>?_,fun x hx t ht hn' r hr=>?_,fun x hx t hd=>?_,h.link⟩
 ·obtain ⟨a1,a2,_,a4⟩:=h.pok x hx
  refine ⟨a1,a2,?_,a4⟩
  rcases hq _ a4 with hh | hh
  ·exfalso
   simp only [passed,List.any_eq_true,Bool.and_eq_true,Bool.not_eq_true'] at hh
   obtain ⟨k,hk1,hk2,hk3⟩:=hh
   have hkl:(listed.setIfInBounds kf true).getD k true = true:=by
    cases e:(listed.setIfInBounds kf true).getD k true with
    | true=>rfl
    | false=>
     rcases (h.un k (hCb k hk1)).1 e with hm | hm
     ·obtain ⟨y,hy,rfl⟩:=List.mem_map.1 hm
      exact absurd hk1 (hPB y hy)
     ·rw [List.contains_iff_mem.2 hm] at hk2; cases hk2
   have hcl:Clo ops (listed.setIfInBounds kf true):=h.closed
   have hxl:=hcl.up hb (hCb k hk1) (by rw [h.lsz]; exact hCb k hk1) hkl x.i hk3
   have hxu:=(h.un x.i (Array.getElem?_eq_some_iff.1 a1).1).2 (.inl (List.mem_map.2 ⟨x,hx,rfl⟩))
   rw [listed_flip hxl] at hxu; cases hxu
  ·exact hh g hg
 ·by_cases e:f.dst = some t
  ·rw [find_ext,if_pos e] at hr
   cases hr
   have hsz:t < a.tmps.size:=by rw [h.sz]; exact hn kf t (by rw [dst_of ho]; exact e)
   rw [e,get_put_self hsz]; exact hv
  ·rw [get_put' e]
   rw [find_ext,if_neg e] at hr
   exact r.mono hR (h.env t ht r hr)
 ·have e:f.dst≠some t:=fun e=>(apart x hx t e).1 ht
  rw [get_put' e]
  exact r.mono hR (h.penv x hx t ht hn' r hr)
 ·have e:f.dst≠some t:=fun e=>(apart x hx t e).2 hd
  rw [find_ext,if_neg e]
  exact h.last x hx t hd
def HeadF (P:Program) (ops:Array Oper) (n:Nat) (Cb:List Nat) (R0:Fz) (K:Act→World→Prop) (f:Oper) (D:List (Nat×Bool)) (E:Env) (l:List As) (pend:List (Nat×(List As→Prop))) (c:List (Nat×Bool)):Prop:=
 c = []∨∃ k rest o,∃ (γ:Type) (ok:γ→Prop) (p:γ→VP) (l':γ→List As),c = (k,true)::rest∧ops[k]? = some o∧OpBar P ops n o E l ok p l'∧
  (∀ x∈pend,((Region.before ops).getD k 0).testBit x.1 = true∨∀ g,ok g→x.2 (l' g))∧∀ g,ok g→Dv P ops n true R0 (KU.fl P ops n Cb R0 K f D) (Sp.ext E o.dst (p g)) (l' g) pend rest
theorem Inv.normF (h:Inv (P:=P) (ops:=ops) (n:=n) R0 (fun _ _ _ _=>True) R E l pend pl (c++D) listed a w) (hd:Dv P ops n true R0 (KU.fl P ops n Cb R0 K f D) E l pend c):
  ∃ R' E' l' pend' pl' c',Inv (P:=P) (ops:=ops) (n:=n) R0 (fun _ _ _ _=>True) R' E' l' pend' pl' (c'++D) listed a w∧Dv P ops n true R0 (KU.fl P ops n Cb R0 K f D) E' l' pend' c'∧Up P ops n Cb R0 K f E' l' pend' (c'++D)∧HeadF P ops n Cb R0 K f D E' l' pend' c'∧pl'.length + c'.length = pl.length + c.length∧
   (∀ j,j∈pl'.map (·.i)∨j∈c'.map (·.1)→j∈pl.map (·.i)∨j∈c.map (·.1))∧∀ j,j∈pl'.map (·.i)∨(j,false)∈c'→j∈pl.map (·.i)∨(j,false)∈c:=by
 generalize hku:KU.fl P ops n Cb R0 K f D = ku at hd
 induction hd generalizing pl R with
 | fin hu=>subst hku; exact ⟨_,_,_,_,_,_,h,.fin hu,hu,.inl rfl,rfl,fun _ h=>h,fun _ h=>h⟩
 | ok o q p ho hok hq hdv ih=>
  subst hku
  obtain ⟨R',E',l',pend',pl',c',h',hc,hu,hl,hn,hs,hs2⟩:=ih (h.move o q p ho hok hq trivial)
  exact ⟨R',E',l',pend',pl',c',h',hc,hu,hl,by rw [hn]; simp; omega,fun j hj=>by
   rcases hs j hj with hh | hh
   ·simp only [List.map_append,List.mem_append,List.map_cons,List.map_nil,List.mem_singleton] at hh
    rcases hh with hh | hh
    ·exact .inl hh
    ·exact .inr (by rw [hh]; simp)
   ·exact .inr (List.mem_cons_of_mem _ hh),fun j hj=>by
   rcases hs2 j hj with hh | hh
   ·simp only [List.map_append,List.mem_append,List.map_cons,List.map_nil,List.mem_singleton] at hh
    rcases hh with hh | hh
    ·exact .inl hh
    ·exact .inr (by rw [hh]; exact List.mem_cons_self ..)
   ·exact .inr (List.mem_cons_of_mem _ hh)⟩
 | bar o ok p l' ho hok hq hdv hu ih=>subst hku; exact ⟨_,_,_,_,_,_,h,.bar o ok p l' ho hok hq hdv hu,hu,.inr ⟨_,_,o,_,ok,p,l',rfl,ho,hok,hq rfl,hdv⟩,rfl,fun _ h=>h,fun _ h=>h⟩
 | gho ok l' hg hq hdv ih=>
  subst hku
  obtain ⟨g,R',hok,h'⟩:=h.gho ok l' hg (hq rfl) (fun _ _=>trivial)
  exact ih g hok h'
 | ghe ok E' l' hd=>cases hd
theorem set_comm {i j:Nat} (h:i≠j):(listed.setIfInBounds i true).setIfInBounds j true = (listed.setIfInBounds j true).setIfInBounds i true:=by
 apply Array.ext
 ·simp
 ·intro k h1 h2
  rw [Array.getElem_setIfInBounds,Array.getElem_setIfInBounds,Array.getElem_setIfInBounds,Array.getElem_setIfInBounds]
  ·by_cases e1:j = k <;> by_cases e2:i = k <;> simp [e1,e2]
  all_goals (simp at h1 ⊢; exact h1)
theorem Inv.anyF (hb:bitsOk ops = true) (hn:∀ i d,dstOf ops i = some d→d < n) (hK:∀ a w,K a w→Q .normal a w) {kf:Nat} (ho:ops[kf]? = some f) (hf:flt ops kf D = true) (hDn:kf ∉ D.map (·.1)) (hCb:∀ k∈Cb,k < ops.size):
  ∀ (fuel:Nat) {R:Fz} {E:Env} {l:List As} {pend:List (Nat×(List As→Prop))} {pl:List PI} {c:List (Nat×Bool)} {listed:Array Bool} {a:Act} {w:World},
   pl.length + (c++D).length + 1 = fuel→(∀ j,j∈pl.map (·.i)∨j∈c.map (·.1)→j≠kf∧j ∉ D.map (·.1))→(∀ j,j∈pl.map (·.i)∨(j,false)∈c→j ∉ Cb)→listed.getD kf true = false→Clo ops listed→Dv P ops n true R0 (KU.fl P ops n Cb R0 K f D) E l pend c→
   Inv (P:=P) (ops:=ops) (n:=n) R0 (fun _ _ _ _=>True) R E l pend pl (c++D) (listed.setIfInBounds kf true) a w→wpAny P .any ops Q fuel listed a w:=by
 obtain ⟨f1,f2,fD,f3⟩:=flt_out ho hf
 intro fuel
 induction fuel with
 | zero=>intro R E l pend pl c listed a w hfu; omega
 | succ fuel ih=>
  intro R E l pend pl c listed a w hfu hne hPB hun hclo hdf h0
  obtain ⟨R',E',l',pend',pl',c',h,hdf',hu,hc,hl,hsub,hsub2⟩:=h0.normF hdf
  have hfu':pl'.length + (c'++D).length = fuel:=by rw [List.length_append] at hfu ⊢; omega
  have hkf:kf∈Region.ready .any ops listed:=mem_ready.2 ⟨hun,f,ho,fun e he=>by rw [f1] at he; simp at he⟩
  have hks:kf < listed.size:=by
   rcases Nat.lt_or_ge kf listed.size with k | k
   ·exact k
   ·simp [k] at hun
  have hsz:listed.size = ops.size:=by have:=h0.lsz; simpa using this
  have hPB':∀ j,j∈pl'.map (·.i)∨(j,false)∈c'→j ∉ Cb:=fun j hj=>hPB j (hsub2 j hj)
  have hne':∀ j,j∈pl'.map (·.i)∨j∈c'.map (·.1)→j≠kf∧j ∉ D.map (·.1):=fun j hj=>hne j (hsub j hj)
  refine ⟨fun e=>by rw [e] at hkf; (cases hkf),fun j hj=>?_⟩
  obtain ⟨hu0,o,hoj,hdep⟩:=getD_mem_ready hj
  have hwp:runs P ops o a w (wpAny P .any ops Q fuel (listed.setIfInBounds j true)) Q:=by
   by_cases ej:j = kf
   ·subst ej
    rw [ho] at hoj; cases hoj
    exact h.up hn ho hf hb (fun x hx=>hne' _ (.inl (List.mem_map.2 ⟨x,hx,rfl⟩))) (fun x hx=>hPB' _ (.inl (List.mem_map.2 ⟨x,hx,rfl⟩))) hCb hu _ fun R2 E2 l2 a2 w2 h2=>Inv.any hb hn hK fuel (by omega) h2
   ·have hj2:j∈Region.ready .any ops (listed.setIfInBounds kf true):=mem_ready.2 ⟨by rw [getD_set true hks,if_neg ej]; exact hu0,o,hoj,fun e he hbd=>getD_set_true (hdep e he hbd)⟩
    have hjun:(listed.setIfInBounds j true).getD kf true = false:=by rw [getD_set_ne true ej]; exact hun
    have hclo':=hclo.set hsz hj
    rcases (h.un j (Array.getElem?_eq_some_iff.1 hoj).1).1 (mem_ready.1 hj2).1 with hm | hm
    ·obtain ⟨x,hx,rfl⟩:=List.mem_map.1 hm
     have hox:=(h.pok x hx).1
     rw [hoj] at hox; cases hox
     refine h.take hb hn hx hj2 _ fun R2 a2 w2 h2=>ih ?_ ?_ ?_ hjun hclo' hdf' (by rw [set_comm ej]; exact h2)
     ·have:(pl'.filter (fun y=>y.i != x.i)).length + 1 = pl'.length:=by
       obtain ⟨s,t,rfl⟩:=List.append_of_mem hx
       have hp:=(List.pairwise_append.1 h.pw).1
       rw [List.pairwise_map,List.pairwise_append,List.pairwise_cons] at hp
       have e1:s.filter (fun y=>y.i != x.i) = s:=List.filter_eq_self.2 fun y hy=>by
        have:=(rel_out (hp.2.2 y hy x (List.mem_cons_self ..))).2.2.2.2.2; simpa using this
       have e2:t.filter (fun y=>y.i != x.i) = t:=List.filter_eq_self.2 fun y hy=>by
        have:=(rel_out (hp.2.1.1 y hy)).2.2.2.2.2; simpa using Ne.symm this
       rw [List.filter_append,List.filter_cons,e1,e2]; simp; omega
      omega
     ·intro j hj
      refine hne' j (hj.imp (fun hh=>?_) id)
      obtain ⟨y,hy,e⟩:=List.mem_map.1 hh
      exact List.mem_map.2 ⟨y,(List.mem_filter.1 hy).1,e⟩
     ·intro j hj
      refine hPB' j (hj.imp (fun hh=>?_) id)
      obtain ⟨y,hy,e⟩:=List.mem_map.1 hh
      exact List.mem_map.2 ⟨y,(List.mem_filter.1 hy).1,e⟩
    ·rcases hc with rfl | ⟨k,rest,o',γ,ok,p,l2,rfl,ho',hok,hq,hdv⟩
     ·exfalso
      rw [List.nil_append] at hm
      obtain ⟨z,hz,rfl⟩:=List.mem_map.1 hm
      have h1:=hclo.ancs hb hj kf (fD z hz)
      rw [listed_flip h1] at hun; cases hun
     ·rcases List.mem_cons.1 hm with e | hm
      ·simp only at e; subst e
       rw [hoj] at ho'; cases ho'
       refine h.bar hb hn o (γ:={g // ok g}) (fun _=>True) (fun g=>p g.1) (fun g=>l2 g.1) hoj (fun R a w h1 h2 h3 h4 K Q nx=>hok R a w h1 h2 h3 h4 K Q fun g R' v w' hg=>nx ⟨g,hg⟩ R' v w' trivial) (fun x hx=>(hq x hx).imp id fun hh g _=>hh g.1 g.2) (fun _ _=>trivial) hj2 _
        fun g R2 a2 w2 h2=>ih (by simp at hfu' ⊢; omega) (fun j hj=>hne' j (hj.imp id (fun hh=>List.mem_cons_of_mem _ hh))) (fun j hj=>hPB' j (hj.imp id (fun hh=>List.mem_cons_of_mem _ hh))) hjun hclo' (hdv g.1 g.2) (by rw [set_comm ej]; exact h2)
      ·exfalso
       obtain ⟨z,hz,rfl⟩:=List.mem_map.1 hm
       have h1:=(rel_out ((List.pairwise_cons.1 (List.pairwise_append.1 h.pw).2.1).1 z hz)).2.1 rfl
       have h2:=h.ancs hb hj2 k h1
       have h3:=(h.un k (h.lt k (.inr (List.mem_cons_self ..)))).2 (.inr (List.mem_cons_self ..))
       rw [listed_flip h2] at h3; cases h3
  unfold wpOp
  simp only [hoj]
  unfold runs at hwp
  split
  ·rename_i hw; rw [if_pos hw] at hwp; exact .inl hwp
  ·rename_i hw; rw [if_neg hw] at hwp; exact hwp
def cbs (c:List (Nat×Bool)):List Nat:=(c.filter (·.2)).map (·.1)
def chkF (ops:Array Oper) (n kf:Nat) (c D:List (Nat×Bool)):Bool:=
 c.all (fun x=>x.2 || !(cbs c).contains x.1) && bitsOk ops && chkOrd ops (c++D) && ((c++D).map (·.1)).length + 1 == ops.size && (List.range ops.size).all (fun i=>i == kf || ((c++D).map (·.1)).contains i) && ((c++D).map (·.1)).all (fun i=>decide (i < ops.size) && i != kf) && ops.all (fun o=>match o.dst with | some d=>decide (d < n) | none=>true) && flt ops kf D && (c.map (·.1)).all (fun i=>!(D.map (·.1)).contains i)
theorem region_anyF {id kf:Nat} {E:Env} {l:List As} (c D:List (Nat×Bool)) (hm:P.follows .mixedOrders = true) (hc:chkF ops n kf c D = true) (ho:ops[kf]? = some f)
  (h:Dv P ops n true R0 (KU.fl P ops n (cbs c) R0 (Q .normal) f D) E l [] c) {R:Fz} {a:Act} {w:World} (h0:R0.le R) (ha:Agr n R a E) (hs:St R l w):(Code.region id ops true).wp P Q a w:=by
 simp only [chkF,Bool.and_eq_true,beq_iff_eq,List.all_eq_true,List.mem_range,List.contains_iff_mem,Array.all_eq_true_iff_forall_mem,Bool.or_eq_true,bne_iff_ne,Bool.not_eq_true',decide_eq_true_eq] at hc
 obtain ⟨⟨⟨⟨⟨⟨⟨⟨h8,hb⟩,h2⟩,h3⟩,h4⟩,h5⟩,h6⟩,hf⟩,h7⟩:=hc
 rw [List.length_map] at h3
 obtain ⟨hpw,hirr⟩:=chkOrd_pw h2
 have hn:∀ i d,dstOf ops i = some d→d < n:=fun i d hd=>by
  unfold dstOf at hd
  cases e:ops[i]? with
  | none=>simp [e] at hd
  | some o=>
   simp [e] at hd
   have:=h6 o (Array.mem_of_getElem? e)
   simpa [hd] using this
 have hlt:∀ i,i∈(c++D).map (·.1)→i < ops.size∧i≠kf:=fun i hi=>h5 i hi
 have hks:kf < ops.size:=(Array.getElem?_eq_some_iff.1 ho).1
 have hks2:kf < (Array.replicate ops.size false).size:=by simpa using hks
 have hc0:Clo ops (Array.replicate ops.size false):=fun j o hj hl=>by
  have:=(Array.getElem?_eq_some_iff.1 hj).1
  simp [this] at hl
 refine wp_region_any hm ?_
 refine Inv.anyF (K:=Q .normal) (R:=R) (E:=E) (l:=l) (pend:=[]) (pl:=[]) (c:=c) hb hn (fun _ _ hk=>hk) ho hf (fun hh=>(hlt kf (by rw [List.map_append]; exact List.mem_append_right _ hh)).2 rfl) (fun k hk=>?_) ops.size (by simpa using h3) (fun j hj=>?_) (fun j hj=>?_) (by simp [hks]) hc0 h
  ⟨ha.1,ha.2.1,hs.drew _ (Nat.le_succ _),h0,trivial,by simp,fun j hj=>?_,fun j hj=>?_,fun j o hj hl=>?_,by simp,by simpa using hpw,by simpa using hirr,fun t _ q hq=>ha.2.2 t q hq,by simp,by simp,by simp⟩
 ·obtain ⟨x,hx,rfl⟩:=List.mem_map.1 hk
  exact (hlt x.1 (by rw [List.map_append]; exact List.mem_append_left _ (List.mem_map.2 ⟨x,(List.mem_filter.1 hx).1,rfl⟩))).1
 ·rcases hj with hj | hj
  ·simp at hj
  ·refine ⟨(hlt j (by rw [List.map_append]; exact List.mem_append_left _ hj)).2,fun hh=>?_⟩
   have:=h7 j hj
   rw [List.contains_iff_mem.2 hh] at this; cases this
 ·rcases hj with hj | hj
  ·simp at hj
  ·intro hh
   rcases h8 _ hj with h9 | h9
   ·cases h9
   ·rw [List.contains_iff_mem.2 hh] at h9; cases h9
 ·rw [getD_set true hks2]
  by_cases e:j = kf
  ·subst e
   rw [if_pos rfl]
   constructor
   ·intro hh; cases hh
   ·rintro (hh | hh)
    ·simp at hh
    ·exact absurd rfl (hlt j hh).2
  ·rw [if_neg e]
   simp [hj]
   have:=(h4 j hj).resolve_left e
   simpa using this
 ·rcases hj with hj | hj
  ·simp at hj
  ·exact (hlt j hj).1
 ·rw [getD_set false hks2] at hl
  by_cases e:j = kf
  ·subst e
   rw [ho] at hj; cases hj
   rw [(flt_out ho hf).1]
   intro e he; simp at he
  ·rw [if_neg e] at hl
   have:=(Array.getElem?_eq_some_iff.1 hj).1
   simp [this] at hl
theorem WP.dgf {id kf:Nat} {E:Env} {l:List As} (hm:P.follows .mixedOrders = true) (c D:List (Nat×Bool)) (ho:ops[kf]? = some f) (hc:chkF ops n kf c D = true)
  (h:Dv P ops n true R0 (KU.fl P ops n (cbs c) R0 (Q .normal) f D) E l [] c):WP P n R0 (.region id ops true) Q E l:=fun R a w h0 ha hs=>region_anyF c D hm hc ho h h0 ha hs
theorem up_al {t:TypeId} {qs:Cs} {T:TypeId} {ps:String} {af:Array Edge} {g:Option (Nat×Bool)} {d:Nat} (hf:f = ⟨some d,.alloc t,T,ps,af,g⟩) (hg:GOn ops E g) (hz:ZC P t qs)
  (hp:∀ x∈pend,passed ops Cb c x.1 = true∨∀ b:Nat,x.2 (blk b t qs::l)) (k:∀ b:Nat,Dv P ops n true R0 (KU.of n R0 K) ((d,eq (.pointer (some ⟨b,0,none⟩)))::E) (blk b t qs::l) pend c):Up P ops n Cb R0 K f E l pend c:=by
 subst hf
 obtain ⟨z,hz,hq⟩:=hz
 refine ⟨Nat,fun _=>True,fun b=>eq (.pointer (some ⟨b,0,none⟩)),fun b=>blk b t qs::l,OpBar.val hg fun R a w h hst=>?_,fun x hx=>(hp x hx).imp id fun h b _=>h b,fun b _=>k b⟩
 have hc:Cs.h R qs z.cells.toList:=by
  rw [hq]
  generalize z.cells.toList = us
  induction us with
  | nil=>exact .nil
  | cons u us ih=>exact .cons rfl ih
 refine ⟨w.heap.size,R,_,_,trivial,Fz.le_refl R,rfl,hst.alloc (o:=.cells z.cells t) ⟨z.cells.toList,by simp,hc⟩,?_⟩
 simp [execOp,Instr.alloc,newVar,newRow,run_zero hz]
theorem all0 {l2:Nat→List As}:∀ x∈([]:List (Nat×(List As→Prop))),passed ops Cb c x.1 = true∨∀ b:Nat,x.2 (l2 b):=fun _ h=>by cases h
theorem all1 {i:Nat} {q:List As→Prop} {l2:Nat→List As} (h:∀ b,q (l2 b)) (k:∀ x∈pend,passed ops Cb c x.1 = true∨∀ b:Nat,x.2 (l2 b)):∀ x∈(i,q)::pend,passed ops Cb c x.1 = true∨∀ b:Nat,x.2 (l2 b):=fun x hx=>by
 rcases List.mem_cons.1 hx with rfl | hx
 ·exact .inr h
 ·exact k x hx
theorem allp {i:Nat} {q:List As→Prop} {l2:Nat→List As} (h:passed ops Cb c i = true) (k:∀ x∈pend,passed ops Cb c x.1 = true∨∀ b:Nat,x.2 (l2 b)):∀ x∈(i,q)::pend,passed ops Cb c x.1 = true∨∀ b:Nat,x.2 (l2 b):=fun x hx=>by
 rcases List.mem_cons.1 hx with rfl | hx
 ·exact .inl h
 ·exact k x hx
theorem Dv.float {E:Env} {l:List As} {pend:List (Nat×(List As→Prop))} {c:List (Nat×Bool)} (hu:Up P ops n Cb R0 K f E l pend (c++D)) (k:(KU.fl P ops n Cb R0 K f D).bar E l pend c→Dv P ops n true R0 (KU.fl P ops n Cb R0 K f D) E l pend c):Dv P ops n true R0 (KU.fl P ops n Cb R0 K f D) E l pend c:=k hu
end
theorem pb {P:Program} {fn:Func} {f:FuncId} {c:Code} {vs:List VP} {ret:VP} {β:Type} {x:Option β} {r:β} {n:Nat} (hf:P.funcs[f]? = some fn) (hn:fn.ntmps = n) (hx:x = some r) (h:∀ (R0:Fz) (F:List As),Gets x (fun v=>v = r)→WP P n R0 c (bodyPost P fn (Endp R0 (fun _:Unit=>True) (fun _=>ret) (fun _=>[]) F)) (enum 0 vs) ([]++F))
  (hb:fn.body = some c:=by exact rfl) (hlen:Nat.ble vs.length n = true:=by exact rfl):Pt P f vs ret:=(Tr.body hf hb hn (Nat.le_of_ble_eq_true hlen) fun R0 F=>h R0 F (Gets.of hx)).pt
theorem sb {β:Type} {v r:β} {M:β→Prop} (H:Gets (some v) (fun x=>x = r)) (h:M v):M r:=by obtain rfl:=Gets.out H; exact h
theorem r0 {P:Program} {n:Nat} {R0:Fz} {Q:Exit→Act→World→Prop} {E:Env} {l:List As} {fn:Func} {ret:Unit→VP} {post:Unit→List As} {F:List As} {rs:List ResultVar} {ps:List VP} (hQ:∀ a w,bodyPost P fn (Endp R0 (fun _:Unit=>True) ret post F) .ret a w→Q .ret a w) (hf:fn.results = rs.toArray) (h:All2 (Res P n E l) rs ps) (hp:ret () = retOf ps:=by exact rfl)
  (h2:(l.take 0).length = 0:=by exact rfl) (h3:(sel (l.take 0) []++l.drop 0).drop 0 = post ()++F:=by exact rfl):WP P n R0 .ret Q E l:=
 rt hQ hf () 0 [] 0 h trivial hp (by decide) h2 h3
theorem r1 {P:Program} {n:Nat} {R0:Fz} {Q:Exit→Act→World→Prop} {E:Env} {l:List As} {fn:Func} {ret:Unit→VP} {post:Unit→List As} {F:List As} {rs:List ResultVar} {ps:List VP} (hQ:∀ a w,bodyPost P fn (Endp R0 (fun _:Unit=>True) ret post F) .ret a w→Q .ret a w) (hf:fn.results = rs.toArray) (h:All2 (Res P n E l) rs ps) (hp:ret () = retOf ps:=by exact rfl)
  (h2:(l.take 1).length = 1:=by exact rfl) (h3:(sel (l.take 1) [0]++l.drop 1).drop 1 = post ()++F:=by exact rfl):WP P n R0 .ret Q E l:=
 rt hQ hf () 1 [0] 1 h trivial hp (by decide) h2 h3
theorem r2 {P:Program} {n:Nat} {R0:Fz} {Q:Exit→Act→World→Prop} {E:Env} {l:List As} {fn:Func} {ret:Unit→VP} {post:Unit→List As} {F:List As} {rs:List ResultVar} {ps:List VP} (hQ:∀ a w,bodyPost P fn (Endp R0 (fun _:Unit=>True) ret post F) .ret a w→Q .ret a w) (hf:fn.results = rs.toArray) (h:All2 (Res P n E l) rs ps) (hp:ret () = retOf ps:=by exact rfl)
  (h2:(l.take 2).length = 2:=by exact rfl) (h3:(sel (l.take 2) [0,1]++l.drop 2).drop 2 = post ()++F:=by exact rfl):WP P n R0 .ret Q E l:=
 rt hQ hf () 2 [0,1] 2 h trivial hp (by decide) h2 h3
theorem r3 {P:Program} {n:Nat} {R0:Fz} {Q:Exit→Act→World→Prop} {E:Env} {l:List As} {fn:Func} {ret:Unit→VP} {post:Unit→List As} {F:List As} {rs:List ResultVar} {ps:List VP} (hQ:∀ a w,bodyPost P fn (Endp R0 (fun _:Unit=>True) ret post F) .ret a w→Q .ret a w) (hf:fn.results = rs.toArray) (h:All2 (Res P n E l) rs ps) (hp:ret () = retOf ps:=by exact rfl)
  (h2:(l.take 3).length = 3:=by exact rfl) (h3:(sel (l.take 3) [0,1,2]++l.drop 3).drop 3 = post ()++F:=by exact rfl):WP P n R0 .ret Q E l:=
 rt hQ hf () 3 [0,1,2] 3 h trivial hp (by decide) h2 h3
theorem r4 {P:Program} {n:Nat} {R0:Fz} {Q:Exit→Act→World→Prop} {E:Env} {l:List As} {fn:Func} {ret:Unit→VP} {post:Unit→List As} {F:List As} {rs:List ResultVar} {ps:List VP} (hQ:∀ a w,bodyPost P fn (Endp R0 (fun _:Unit=>True) ret post F) .ret a w→Q .ret a w) (hf:fn.results = rs.toArray) (h:All2 (Res P n E l) rs ps) (hp:ret () = retOf ps:=by exact rfl)
  (h2:(l.take 4).length = 4:=by exact rfl) (h3:(sel (l.take 4) [0,1,2,3]++l.drop 4).drop 4 = post ()++F:=by exact rfl):WP P n R0 .ret Q E l:=
 rt hQ hf () 4 [0,1,2,3] 4 h trivial hp (by decide) h2 h3
theorem r5 {P:Program} {n:Nat} {R0:Fz} {Q:Exit→Act→World→Prop} {E:Env} {l:List As} {fn:Func} {ret:Unit→VP} {post:Unit→List As} {F:List As} {rs:List ResultVar} {ps:List VP} (hQ:∀ a w,bodyPost P fn (Endp R0 (fun _:Unit=>True) ret post F) .ret a w→Q .ret a w) (hf:fn.results = rs.toArray) (h:All2 (Res P n E l) rs ps) (hp:ret () = retOf ps:=by exact rfl)
  (h2:(l.take 5).length = 5:=by exact rfl) (h3:(sel (l.take 5) [0,1,2,3,4]++l.drop 5).drop 5 = post ()++F:=by exact rfl):WP P n R0 .ret Q E l:=
 rt hQ hf () 5 [0,1,2,3,4] 5 h trivial hp (by decide) h2 h3
end Go.Sp
