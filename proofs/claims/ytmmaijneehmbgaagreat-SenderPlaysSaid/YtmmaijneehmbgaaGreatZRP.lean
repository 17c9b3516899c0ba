import Derived.Test.YtmmaijneehmbgaaGreatZPX
import Derived.Test.YtmmaijneehmbgaaGreatConS
set_option linter.all false
set_option maxRecDepth 10000
namespace Go.Proofs.YtmmaijneehmbgaaGreat
open Go Go.Sp
def putG (s:ByteArray):Bool→List ByteArray→List ByteArray
 | d,[]=>if d then [] else [s]
 | d,x::l=>(if !d && !sLt x s then [s] else [])++((if x=s then [] else [x])++putG s (d || !sLt x s) l)
theorem putG_mem (s:ByteArray):∀ (l:List ByteArray) (d:Bool) (x:ByteArray),x∈putG s d l↔(x∈l∧x≠s)∨(x=s∧d=false)
 | [],d,x=>by cases d <;> simp [putG]
 | y::l,d,x=>by
  simp only [putG,List.mem_append,putG_mem s l]
  by_cases hy:y=s
  ·subst hy
   cases d <;> simp [sLt_irrefl] <;> grind
  ·cases d <;> cases h:sLt y s <;> simp [hy] <;> grind
theorem putG_true (s:ByteArray):∀ (l:List ByteArray),putG s true l=l.filter (fun x=>decide (x≠s))
 | []=>rfl
 | y::l=>by
  simp only [putG,Bool.not_true,Bool.false_and,Bool.true_or,putG_true s l]
  by_cases hy:y=s
  ·subst hy; simp
  ·simp [hy]
theorem putG_srt {s:ByteArray}:∀ {l:List ByteArray},SrtT l→SrtT (putG s false l)
 | [],_=>by simp [putG,SrtT]
 | y::l,h=>by
  have h':SrtT l:=(List.pairwise_cons.1 h).2
  have h1:=(List.pairwise_cons.1 h).1
  cases hs:sLt y s with
  | true=>
   have hne:y≠s:=sLt_ne hs
   have e:putG s false (y::l)=y::putG s false l:=by simp [putG,hs,hne]
   rw [e]
   refine List.pairwise_cons.2 ⟨fun z hz=>?_,putG_srt h'⟩
   rcases (putG_mem s l false z).1 hz with ⟨z1,_⟩ | ⟨rfl,_⟩
   ·exact h1 z z1
   ·exact hs
  | false=>
   have e:putG s false (y::l)=s::((if y=s then [] else [y])++l.filter (fun x=>decide (x≠s))):=by
    simp [putG,hs,putG_true]
   rw [e]
   have hsy:∀ z∈l,sLt s z=true:=fun z hz=>by
    by_cases hy:y=s
    ·subst hy; exact h1 z hz
    ·have:sLt s y=true:=by
      cases h2:sLt s y with
      | true=>rfl
      | false=>exact absurd (sLt_conn hs h2) hy
     exact sLt_trans this (h1 z hz)
   refine List.pairwise_cons.2 ⟨fun z hz=>?_,?_⟩
   ·rcases List.mem_append.1 hz with hz | hz
    ·split at hz
     ·cases hz
     ·rename_i hy
      rw [List.mem_singleton] at hz; subst hz
      cases h2:sLt s z with
      | true=>rfl
      | false=>exact absurd (sLt_conn hs h2) hy
    ·exact hsy z (List.mem_filter.1 hz).1
   ·have hf:SrtT (l.filter (fun x=>decide (x≠s))):=h'.sublist List.filter_sublist
    split
    ·exact hf
    ·exact List.pairwise_cons.2 ⟨fun z hz=>h1 z (List.mem_filter.1 hz).1,hf⟩
theorem putG_len (s:ByteArray):∀ (l:List ByteArray) (d:Bool),(putG s d l).length≤l.length+1
 | [],d=>by cases d <;> simp [putG]
 | y::l,d=>by
  have h1:=putG_len s l (d || !sLt y s)
  have h2:(putG s true l).length≤l.length:=by rw [putG_true]; exact List.length_filter_le ..
  simp only [putG,List.length_append,List.length_cons]
  cases d <;> cases h:sLt y s <;> simp [h] at h1 ⊢ <;> split <;> simp <;> omega
theorem rp_inc {m:Nat} (h:m≤1000000):w64 ((m:Int)+1)=((m+1:Nat):Int):=by rw [w64_id (by omega) (by omega)]; omega
theorem rp_at (l:List ByteArray) (m:Nat):strK.at l (m:Int)=l.getD m ⟨#[]⟩:=by unfold Kd.at; rw [Int.toNat_natCast] <;> rfl
theorem putR_loop {l:List ByteArray} {s:ByteArray} (hl:l.length≤100000):∀ (n m:Nat) (d:Bool) (out:List ByteArray),l.length-m=n→m≤l.length→out.length≤2*m→
  ∃ a,El (fun k j=>r09_Put.l0 k l s j d (m:Int) out) a∧(if a.1 then a.2.2.2 else a.2.2.2++[s])=out++putG s d (l.drop m)∧a.2.2.2.length≤2*l.length:=by
 intro n
 induction n with
 | zero=>
  intro m d out hd hm ho
  obtain rfl:m=l.length:=by omega
  refine ⟨(d,(l.length:Int),false,out),?_,?_,ho⟩
  ·refine El.step (fun _ _=>by rw [r09_Put.l0]) ?_
   exact El.cf (decide_eq_false (by omega)) (by simpa using El.pure)
  ·rw [List.drop_length]; cases d <;> simp [putG]
 | succ n ih=>
  intro m d out hd hm ho
  have hlt:m<l.length:=by omega
  have hdr:l.drop m=l.getD m ⟨#[]⟩::l.drop (m+1):=by
   rw [List.drop_eq_getElem_cons hlt,List.getD_eq_getElem?_getD,List.getElem?_eq_getElem hlt]; rfl
  rw [hdr]
  generalize hx:l.getD m ⟨#[]⟩=x
  obtain ⟨a,a1,a2,a3⟩:=ih (m+1) (d || !sLt x s) (out++((if !d && !sLt x s then [s] else [])++(if x=s then [] else [x]))) (by omega) (by omega) (by
   simp only [List.length_append]
   have:(if (!d && !sLt x s)=true then [s] else ([]:List ByteArray)).length≤1:=by split <;> simp
   have:(if x=s then ([]:List ByteArray) else [x]).length≤1:=by split <;> simp
   omega)
  refine ⟨a,?_,by rw [a2]; simp [putG],a3⟩
  refine El.step (fun _ _=>by rw [r09_Put.l0]) ?_
  simp only [rp_inc (show m≤1000000 by omega),rp_at,hx]
  refine El.ct (decide_eq_true (by omega)) ?_
  have g0:(0:Int)≤(m:Int)∧(m:Int)<(l.length:Int):=⟨by omega,by omega⟩
  have B:∀ (d' q:Bool) (o':List ByteArray),o'.length≤2*m+1→d'=(d || !sLt x s)→o'=out++(if !d && !sLt x s then [s] else [])→
    El (fun k j=>grd ((0:Int)≤(m:Int)∧(m:Int)<(l.length:Int)) (cond (!decide (x=s)) (grd ((0:Int)≤(m:Int)∧(m:Int)<(l.length:Int)) (grd (o'.length+([x]:List ByteArray).length≤9223372036854775807∧(o'.length+([x]:List ByteArray).length)*16≤140737488355328) (r09_Put.l0 k l s j d' ((m+1:Nat):Int) (o'++([x]:List ByteArray))))) (r09_Put.l0 k l s j d' ((m+1:Nat):Int) o'))) a:=by
   intro d' q o' b1 b2 b3
   refine El.grd g0 ?_
   by_cases h:x=s
   ·refine El.cf (by simp [h]) ?_
    rw [b2,b3]
    rw [if_pos h,List.append_nil] at a1
    exact a1
   ·refine El.ct (by simp [h]) (El.grd g0 (El.grd ⟨by simp only [List.length_singleton]; omega,by simp only [List.length_singleton]; omega⟩ ?_))
    rw [b2,b3,List.append_assoc]
    rw [if_neg h] at a1
    exact a1
  cases d with
  | true=>exact El.bind (a:=(true,false,out)) (El.cf rfl El.pure) (B true false out (by omega) (by simp) (by simp))
  | false=>
   cases h:sLt x s with
   | true=>exact El.bind (a:=(false,false,out)) (El.ct rfl (El.grd g0 (El.cf rfl (by simpa [h] using El.pure)))) (B false false out (by omega) (by simp [h]) (by simp [h]))
   | false=>exact El.bind (a:=(true,true,out++[s])) (El.ct rfl (El.grd g0 (El.ct rfl (El.grd ⟨by simp only [List.length_singleton]; omega,by simp only [List.length_singleton]; omega⟩ (by simpa [h] using El.pure))))) (B true true _ (by simp; omega) (by simp [h]) (by simp [h]))
theorem putR_ev (l:List ByteArray) (s:ByteArray) (hl:l.length≤100000):Ev (fun k=>r09_Put.f k l s) (putG s false l):=by
 obtain ⟨a,a1,a2,a3⟩:=putR_loop (l:=l) (s:=s) hl l.length 0 false [] (by omega) (by omega) (by simp)
 unfold r09_Put.f
 refine Ev.bind a1.diag ?_
 rw [List.nil_append,List.drop_zero] at a2
 rw [← a2]
 cases h:a.1 with
 | true=>exact Ev.cf rfl Ev.pure
 | false=>exact Ev.ct rfl (Ev.grd ⟨by simp only [List.length_singleton]; omega,by simp only [List.length_singleton]; omega⟩ Ev.pure)
end Go.Proofs.YtmmaijneehmbgaaGreat
