import Derived.Test.YtcchplmcefamhaaGreatZMJ
set_option linter.all false
set_option maxRecDepth 10000
namespace Go.Proofs.YtcchplmcefamhaaGreat
open Go Go.Sp
def ltb (t:Tab) (a b:Event):Bool:=ltOf posC (pos t a.fID) (pos t b.fID)
def cnt (t:Tab) (e:Event):List Event→Nat
 | []=>0
 | a::l=>if ltb t a e = true then cnt t e l + 1 else 0
def ins (t:Tab) (e:Event):List Event→List Event
 | []=>[e]
 | a::l=>if ltb t a e = true then a::ins t e l else e::a::l
theorem cnt_cons (t:Tab) (e a:Event) (l:List Event):cnt t e (a::l) = if ltb t a e = true then cnt t e l + 1 else 0:=rfl
theorem cnt_le (t:Tab) (e:Event):∀ l:List Event,cnt t e l≤l.length
 | []=>Nat.le_refl _
 | a::l=>by
  unfold cnt
  split
  ·have:=cnt_le t e l; simp; omega
  ·exact Nat.zero_le _
theorem ins_cnt (t:Tab) (e:Event):∀ l:List Event,ins t e l = l.take (cnt t e l)++[e]++l.drop (cnt t e l)
 | []=>rfl
 | a::l=>by
  unfold ins cnt
  split
  ·rw [ins_cnt t e l]; rfl
  ·rfl
theorem ins_perm (t:Tab) (e:Event):∀ l:List Event,(ins t e l).Perm (e::l)
 | []=>List.Perm.refl _
 | a::l=>by
  unfold ins
  split
  ·exact ((ins_perm t e l).cons a).trans (List.Perm.swap _ _ _)
  ·exact List.Perm.refl _
theorem ins_srt {t:Tab} {e:Event}:∀ {l:List Event},l.Pairwise (lt t)→(∀ a∈l,a.fID≠e.fID)→(ins t e l).Pairwise (lt t)
 | [],_,_=>List.pairwise_singleton _ _
 | a::l,h,hn=>by
  rw [List.pairwise_cons] at h
  unfold ins
  split
  ·rename_i hlt
   refine List.pairwise_cons.2 ⟨fun x hx=>?_,ins_srt h.2 fun x hx=>hn x (List.mem_cons_of_mem _ hx)⟩
   rcases List.mem_cons.1 ((ins_perm t e l).mem_iff.1 hx) with k | k
   ·rw [k]; exact hlt
   ·exact h.1 x k
  ·rename_i hlt
   have hlt:ltOf posC (pos t a.fID) (pos t e.fID) = false:=by
    cases k:ltb t a e with
    | false=>exact k
    | true=>exact absurd k hlt
   have hea:lt t e a:=by
    unfold lt
    cases k:ltOf posC (pos t e.fID) (pos t a.fID) with
    | true=>rfl
    | false=>
     have:=congrArg Pos.fID (posC_tot _ _ hlt k)
     exact absurd this (hn a (List.mem_cons_self ..))
   refine List.pairwise_cons.2 ⟨fun x hx=>?_,List.pairwise_cons.2 h⟩
   rcases List.mem_cons.1 hx with k | k
   ·rw [k]; exact hea
   ·exact lt_tr hea (h.1 x k)
section
variable {d:RDag} (hg:RG d.fL)
include hg
theorem rall_in {i:Nat} (hi:i < d.fL.length) {out:List Event} (ho:out.length≤1000):∀ n x:Nat,out.length - x = n→x≤out.length→∃ b:Bool,El (fun k j=>r07_All.l1 k d out (i:Int) j (x:Int)) (((x + cnt (tb d.fL) (ev d.fL i) (out.drop x):Nat):Int),b):=by
 have hl:=hg.len
 intro n
 induction n with
 | zero=>
  intro x hd hx
  obtain rfl:x = out.length:=by omega
  refine ⟨false,?_⟩
  refine El.step (fun _ _=>by rw [r07_All.l1]) ?_
  rw [List.drop_length]
  exact El.cf (by simp) El.pure
 | succ n ih=>
  intro x hd hx
  have hx2:x < out.length:=by omega
  have hdr:out.drop x = ev out x::out.drop (x + 1):=by rw [List.drop_eq_getElem_cons hx2]; unfold ev; rw [List.getD_eq_getElem?_getD,List.getElem?_eq_getElem hx2]; rfl
  cases hlt:ltb (tb d.fL) (ev out x) (ev d.fL i) with
  | true=>
   obtain ⟨b,h1⟩:=ih (x + 1) (by omega) (by omega)
   refine ⟨b,?_⟩
   refine El.step (fun _ _=>by rw [r07_All.l1]) ?_
   refine El.ct (decide_eq_true (by omega)) (El.grd ⟨by omega,by omega⟩ ?_)
   rw [ev_at (l:=out) hx2,ev_at hi]
   refine El.bind (rpos_ev hg _).el (El.grd ⟨by omega,by omega⟩ (El.bind (rpos_ev hg _).el (El.bind (Ev.of (before_ev _ _)).el (El.ct hlt ?_))))
   rw [rp_inc (show x≤1000000 by omega)]
   have e:x + cnt (tb d.fL) (ev d.fL i) (out.drop x) = x + 1 + cnt (tb d.fL) (ev d.fL i) (out.drop (x + 1)):=by
    rw [hdr,cnt_cons,if_pos hlt]; omega
   rw [e]; exact h1
  | false=>
   refine ⟨false,?_⟩
   refine El.step (fun _ _=>by rw [r07_All.l1]) ?_
   refine El.ct (decide_eq_true (by omega)) (El.grd ⟨by omega,by omega⟩ ?_)
   rw [ev_at (l:=out) hx2,ev_at hi]
   refine El.bind (rpos_ev hg _).el (El.grd ⟨by omega,by omega⟩ (El.bind (rpos_ev hg _).el (El.bind (Ev.of (before_ev _ _)).el (El.cf hlt ?_))))
   have e:x + cnt (tb d.fL) (ev d.fL i) (out.drop x) = x:=by
    rw [hdr,cnt_cons,if_neg (by rw [hlt]; exact fun h=>by cases h)]; rfl
   have hlt2:ltOf posC (pos (tb d.fL) (ev out x).fID) (pos (tb d.fL) (ev d.fL i).fID) = false:=hlt
   rw [e,hlt2]; exact El.pure
theorem rall_out:∀ n x:Nat,d.fL.length - x = n→x≤d.fL.length→∀ out:List Event,out.Perm (d.fL.take x)→out.Pairwise (lt (tb d.fL))→
  ∃ r:List Event×Int×Bool,El (fun k j=>r07_All.l0 k d j out (x:Int)) r∧r.1.Perm d.fL∧r.1.Pairwise (lt (tb d.fL)):=by
 have hl:=hg.len
 intro n
 induction n with
 | zero=>
  intro x hd hx out hp hs
  obtain rfl:x = d.fL.length:=by omega
  rw [List.take_length] at hp
  refine ⟨(out,(d.fL.length:Int),false),?_,hp,hs⟩
  refine El.step (fun _ _=>by rw [r07_All.l0]) ?_
  exact El.cf (by simp) (by simpa using El.pure)
 | succ n ih=>
  intro x hd hx out hp hs
  have hx2:x < d.fL.length:=by omega
  have hol:out.length = x:=by rw [hp.length_eq,List.length_take]; omega
  have hne:∀ a∈out,a.fID≠(ev d.fL x).fID:=fun a ha he=>by
   have h1:=hp.mem_iff.1 ha
   obtain ⟨i,hi,rfl⟩:=mem_ev h1
   rw [List.length_take] at hi
   have e2:ev (d.fL.take x) i = ev d.fL i:=by
    unfold ev; rw [List.getD_eq_getElem?_getD,List.getD_eq_getElem?_getD,List.getElem?_take,if_pos (by omega)]
   rw [e2] at he
   have h7:=ix_of hg.good hx2
   rw [← he,ix_of hg.good (show i < d.fL.length by omega)] at h7
   omega
  obtain ⟨b,h1⟩:=rall_in hg hx2 (out:=out) (by omega) _ 0 rfl (by omega)
  have hc:=cnt_le (tb d.fL) (ev d.fL x) out
  have hins:=ins_cnt (tb d.fL) (ev d.fL x) out
  obtain ⟨r,r1,r2⟩:=ih (x + 1) (by omega) (by omega) (ins (tb d.fL) (ev d.fL x) out) (by
   rw [take_ev hx2]
   exact (ins_perm _ _ _).trans ((hp.cons _).trans (List.perm_append_comm (l₁:=[ev d.fL x]) ))) (ins_srt hs hne)
  refine ⟨r,?_,r2⟩
  refine El.step (fun _ _=>by rw [r07_All.l0]) ?_
  rw [List.drop_zero,Nat.zero_add] at h1
  generalize cnt (tb d.fL) (ev d.fL x) out = c at hc hins h1
  refine El.ct (decide_eq_true (by omega)) (El.bind (a:=(ins (tb d.fL) (ev d.fL x) out,(c:Int),b)) (El.bind h1.diag.el ?_) (by rw [rp_inc (show x≤1000000 by omega)]; exact r1))
  rw [Int.toNat_natCast,ev_at hx2]
  have l1:((out.take c).drop 0).length = c:=by rw [List.drop_zero,List.length_take]; omega
  have l2:((out.take out.length).drop c).length = out.length - c:=by rw [List.take_length,List.length_drop]
  refine El.grd ⟨by omega,by omega,by omega⟩ (El.grd ?_ (El.grd ⟨by omega,by omega⟩ (El.grd ?_ (El.grd ⟨by omega,by omega,by omega⟩ (El.grd ?_ ?_)))))
  ·rw [l1,List.length_nil]; omega
  ·rw [List.nil_append,l1,List.length_singleton]; omega
  ·rw [List.nil_append,List.length_append,l1,l2,List.length_singleton]; omega
  ·rw [List.nil_append,List.drop_zero,List.take_length,← hins]
   exact El.pure
theorem rall_ev:Ev (fun k=>r07_All.f k d) (allE (tb d.fL)):=by
 obtain ⟨r,r1,r2,r3⟩:=rall_out hg _ 0 rfl (by omega) [] (by simp) List.Pairwise.nil
 have e:r.1 = allE (tb d.fL):=perm_unique (fun x y k q=>(lt_irr (lt_tr k q)).elim) (r2.trans (all_perm hg.good).symm) r3 (all_srt hg.good)
 unfold r07_All.f
 exact Ev.bind r1.diag (Ev.of (by rw [e]))
end
end Go.Proofs.YtcchplmcefamhaaGreat
