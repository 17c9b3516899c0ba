import Derived.Test.YtcchplmcefamhaaGreatZLawViewSame
import Derived.Test.YtcchplmcefamhaaGreatZPureViewSame
import Derived.Test.YtcchplmcefamhaaGreatRows
import Derived.Test.YtcchplmcefamhaaGreatConR
set_option linter.all false
set_option maxRecDepth 10000
namespace Go.Proofs.YtcchplmcefamhaaGreat
open Go Go.Sp Go.ChangeShapes Go.WideShapes Go.ChangeAt Go.RowKit
open Go.ChangeMaps (open_string shut_string)
theorem rd74 (W:World):Rdr Tryz.prog W 74 GMade.K GMade.ok:=fun H enc fuel cs y h=>by
 obtain ⟨xs,n,_,_,hlen,hxl,hf⟩:=DataW.trod_struct Tryz.underlying74 h
 obtain ⟨y0,hy0⟩:∃ y,xs[0]? = some y:=⟨xs[0]'(by rw [hxl]; decide),List.getElem?_eq_getElem (by rw [hxl]; decide)⟩
 have h0:=(hf 0 _ rfl).trans hy0
 obtain ⟨x0,k0,cc0_⟩:=(rd_int Tryz.underlying3) H enc n _ _ h0
 replace cc0_:Cs.h (full W) ((intK .i64).enc x0) ((cs.drop 0).take (Tryz.prog.cellsOf 3)):=cc0_
 rw [c3] at cc0_
 obtain ⟨y1,hy1⟩:∃ y,xs[1]? = some y:=⟨xs[1]'(by rw [hxl]; decide),List.getElem?_eq_getElem (by rw [hxl]; decide)⟩
 have h1:=(hf 1 _ rfl).trans hy1
 obtain ⟨x1,k1,cc1_⟩:=(rd_int Tryz.underlying3) H enc n _ _ h1
 replace cc1_:Cs.h (full W) ((intK .i64).enc x1) ((cs.drop 1).take (Tryz.prog.cellsOf 3)):=cc1_
 rw [c3] at cc1_
 obtain ⟨y2,hy2⟩:∃ y,xs[2]? = some y:=⟨xs[2]'(by rw [hxl]; decide),List.getElem?_eq_getElem (by rw [hxl]; decide)⟩
 have h2:=(hf 2 _ rfl).trans hy2
 obtain ⟨x2,k2,cc2_⟩:=(rd_slice Tryz.underlying72 c3 (by decide) (rd_int Tryz.underlying3)) H enc n _ _ h2
 replace cc2_:Cs.h (full W) ((slK (intK .i64)).enc x2) ((cs.drop 2).take (Tryz.prog.cellsOf 72)):=cc2_
 rw [c72] at cc2_
 obtain ⟨y3,hy3⟩:∃ y,xs[3]? = some y:=⟨xs[3]'(by rw [hxl]; decide),List.getElem?_eq_getElem (by rw [hxl]; decide)⟩
 have h3:=(hf 3 _ rfl).trans hy3
 obtain ⟨x3,k3,cc3_⟩:=(rd_int Tryz.underlying3) H enc n _ _ h3
 replace cc3_:Cs.h (full W) ((intK .i64).enc x3) ((cs.drop 3).take (Tryz.prog.cellsOf 3)):=cc3_
 rw [c3] at cc3_
 exact ⟨⟨x0,x1,x2,x3⟩,⟨k0,k1,k2,k3,trivial⟩,(show Cs.h (full W) ((intK .i64).enc x0++((intK .i64).enc x1++((slK (intK .i64)).enc x2++((intK .i64).enc x3++[])))) (cs.drop 0) from (Cs.at_ (s:=1) cc0_ (Cs.at_ (s:=1) cc1_ (Cs.at_ (s:=1) cc2_ (Cs.at_ (s:=1) cc3_ (Cs.end_ (Nat.le_of_eq (hlen.trans c74))))))))⟩
theorem viewSame_own:ownKnob Tryz.prog.godebug = none:=by kernel_rfl
theorem viewSame_laid:laidOutB Tryz.prog = true:=by kernel_rfl
set_option maxRecDepth 100000 in
theorem viewSame_lifted (os:Os) (started:os.Started) (H:Type) (enc:TypeId×Value→H):
  ReturnsInHanded {} Tryz.checked os 3 .any (Rows.viewSameSpec.pre6 enc Tryz.prog Tryz.f3 Rows.viewSameRow.domain false) (Rows.viewSameSpec.post enc Tryz.prog Tryz.f3 false true false false):=by
 refine returnsInHanded_of_change_sized (C:=Tryz.checked) viewSame_own started (by kernel_rfl) Tryz.func3
  (ChangeSpec.witness6 (enc:=enc) (C:=Tryz.checked) false ⟨#[],#[.slice none 0 0,.slice none 0 0,.slice none 0 0],[]⟩ 8 (by kernel_rfl) (by kernel_rfl) (by kernel_rfl) (by kernel_rfl)) ?_
 intro W base args ds gs before hval0 hW hcnd hsz0 _
 have hval:∀ (j:Nat) t v,Tryz.f3.params[j]? = some t→args[j]? = some v→Value.okWide Tryz.prog W .any base t v:=hval0
 have hW':=hW
 obtain ⟨p,q,hA0,hV,rfl,hfz,hnd⟩:=hW
 have hA:DataW.TrodAll enc Tryz.prog W 0 (fun _=>true) true Tryz.f3.params.toList args.toList ds p:=hA0
 rw [Tryz.params3] at hA hval
 obtain ⟨v0,vs0,d0,ds0,p0,q0,hargs,rfl,rfl,h0,r0⟩:=trodAll_cons hA
 obtain ⟨v1,vs1,d1,ds1,p1,q1,rfl,rfl,rfl,h1,r1⟩:=trodAll_cons r0
 obtain ⟨v2,vs2,d2,ds2,p2,q2,rfl,rfl,rfl,h2,r2⟩:=trodAll_cons r1
 obtain ⟨rfl,rfl,rfl⟩:=trodAll_nil r2
 obtain rfl:args = #[v0,v1,v2]:=by cases args; simp_all
 obtain ⟨rfl,rfl⟩:=trodVars_none hV
 have z0:=h0
 have lt0:∀ x∈p0,x.block < W.heap.size:=by obtain ⟨m,hm⟩:=z0; exact DataW.trod_lt m _ _ _ hm
 obtain ⟨a0,k0,c0⟩:=trodAny (rd_slice Tryz.underlying22 c74 (by decide) (rd74 _)) h0
 obtain ⟨ad0,ln0,cp0,rfl⟩:=okWide_slice Tryz.underlying22 (hval 0 22 v0 rfl rfl)
 have z1:=h1
 have lt1:∀ x∈p1,x.block < W.heap.size:=by obtain ⟨m,hm⟩:=z1; exact DataW.trod_lt m _ _ _ hm
 obtain ⟨a1,k1,c1⟩:=trodAny (rd_slice Tryz.underlying22 c74 (by decide) (rd74 _)) h1
 obtain ⟨ad1,ln1,cp1,rfl⟩:=okWide_slice Tryz.underlying22 (hval 1 22 v1 rfl rfl)
 have z2:=h2
 have lt2:∀ x∈p2,x.block < W.heap.size:=by obtain ⟨m,hm⟩:=z2; exact DataW.trod_lt m _ _ _ hm
 obtain ⟨a2,k2,c2⟩:=trodAny (rd_slice Tryz.underlying22 c74 (by decide) (rd74 _)) h2
 obtain ⟨ad2,ln2,cp2,rfl⟩:=okWide_slice Tryz.underlying22 (hval 2 22 v2 rfl rfl)
 obtain ⟨k,hk⟩:=ViewSame_pure a0 a1 a2 k0 k1 k2
 refine (law_walk (w10_ViewSame.c hk) (us:=[_,_,_]) (.cons (arg_one rfl c0) (.cons (arg_one rfl c1) (.cons (arg_one rfl c2) .nil)))).mono fun e W' ⟨he,bel⟩=>?_
 subst he
 exact ⟨_,rfl,_,_,_,[],_,[],hW',trodAll_mk1 (shut_bool Tryz.underlying4 _),(trodAll_cons_mk (Below.trod viewSame_laid (by kernel_rfl) (of_decide_eq_true (by kernel_rfl)) z0 bel lt0) (trodAll_cons_mk (Below.trod viewSame_laid (by kernel_rfl) (of_decide_eq_true (by kernel_rfl)) z1 bel lt1) (trodAll_cons_mk (Below.trod viewSame_laid (by kernel_rfl) (of_decide_eq_true (by kernel_rfl)) z2 bel lt2) trodAll_mk0))),rfl,bel.frame _,fun h=>by cases h⟩
theorem viewSame_holds:Rows.ViewSameSaid:=
 OpenClaim.holds_of_wide 3 Tryz.f3 rfl rfl rfl rfl rfl rfl rfl ⟨rfl,rfl,rfl,rfl,rfl⟩ rfl rfl rfl rfl rfl (by kernel_rfl) Tryz.func3 (by kernel_rfl)
  (of_decide_eq_true (by kernel_rfl)) (by unfold Func.isWrapper; first | (rw [if_pos (by decide +kernel)]; kernel_rfl) | (rw [if_neg (by decide +kernel)]; exact ⟨rfl,rfl⟩))
  (fun os started H enc _=>viewSame_lifted os started H enc)
#print axioms viewSame_holds
end Go.Proofs.YtcchplmcefamhaaGreat
