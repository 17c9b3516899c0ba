/- ServerReads, for every input. No condition. -/
import Derived.Test.YtelcbdmigiacpaaGreatZLawServerReads
import Derived.Test.YtelcbdmigiacpaaGreatZPureServerReads
import Derived.Test.YtelcbdmigiacpaaGreatRows
set_option linter.all false
set_option maxRecDepth 10000
namespace Go.Proofs.YtelcbdmigiacpaaGreat
open Go Go.Sp Go.ChangeShapes Go.WideShapes Go.ChangeAt Go.RowKit
open Go.ChangeMaps (open_string shut_string)
theorem HJ (W:World):Fi Tryz.prog W 244 dV.K dV.ok:=λH enc fuel cs y h=>by
 obtain⟨xs,n,_,_,hlen,hxl,hf⟩:=DataW.trod_struct Tryz.underlying244 h
 obtain⟨y0,hy0⟩:∃ y,xs[0]? = some y:=⟨xs[0]'(by rw [hxl];decide),gE (by rw [hxl];decide)⟩
 have h0:=(hf 0 _ rfl).trans hy0
 obtain⟨x0,k0,cc0_⟩:=(lR Tryz.underlying3) H enc n _ _ h0
 replace cc0_:Cs.h (full W) ((aP .i64).enc x0) ((cs.drop 0).take (Tryz.prog.cellsOf 3)):=cc0_
 rw [c3] at cc0_
 obtain⟨y1,hy1⟩:∃ y,xs[1]? = some y:=⟨xs[1]'(by rw [hxl];decide),gE (by rw [hxl];decide)⟩
 have h1:=(hf 1 _ rfl).trans hy1
 obtain⟨x1,k1,cc1_⟩:=(lR Tryz.underlying3) H enc n _ _ h1
 replace cc1_:Cs.h (full W) ((aP .i64).enc x1) ((cs.drop 1).take (Tryz.prog.cellsOf 3)):=cc1_
 rw [c3] at cc1_
 obtain⟨y2,hy2⟩:∃ y,xs[2]? = some y:=⟨xs[2]'(by rw [hxl];decide),gE (by rw [hxl];decide)⟩
 have h2:=(hf 2 _ rfl).trans hy2
 obtain⟨x2,k2,cc2_⟩:=(pI Tryz.underlying24 c3 dc (lR Tryz.underlying3)) H enc n _ _ h2
 replace cc2_:Cs.h (full W) ((kF (aP .i64)).enc x2) ((cs.drop 2).take (Tryz.prog.cellsOf 24)):=cc2_
 rw [c24] at cc2_
 obtain⟨y3,hy3⟩:∃ y,xs[3]? = some y:=⟨xs[3]'(by rw [hxl];decide),gE (by rw [hxl];decide)⟩
 have h3:=(hf 3 _ rfl).trans hy3
 obtain⟨x3,k3,cc3_⟩:=(lR Tryz.underlying3) H enc n _ _ h3
 replace cc3_:Cs.h (full W) ((aP .i64).enc x3) ((cs.drop 3).take (Tryz.prog.cellsOf 3)):=cc3_
 rw [c3] at cc3_
 exact⟨⟨x0,x1,x2,x3⟩,⟨k0,k1,k2,k3,trivial⟩,(show Cs.h (full W) ((aP .i64).enc x0++((aP .i64).enc x1++((kF (aP .i64)).enc x2++((aP .i64).enc x3++[])))) (cs.drop 0) from (Cs.at_ (s:=1) cc0_ (Cs.at_ (s:=1) cc1_ (Cs.at_ (s:=1) cc2_ (Cs.at_ (s:=1) cc3_ (Cs.end_ (Nat.le_of_eq (hlen.trans yS))))))))⟩
theorem rd80 (W:World):Fi Tryz.prog W 80 ak.K ak.ok:=λH enc fuel cs y h=>by
 obtain⟨xs,n,_,_,hlen,hxl,hf⟩:=DataW.trod_struct Tryz.underlying80 h
 obtain⟨y0,hy0⟩:∃ y,xs[0]? = some y:=⟨xs[0]'(by rw [hxl];decide),gE (by rw [hxl];decide)⟩
 have h0:=(hf 0 _ rfl).trans hy0
 obtain⟨x0,k0,cc0_⟩:=(lR Tryz.underlying3) H enc n _ _ h0
 replace cc0_:Cs.h (full W) ((aP .i64).enc x0) ((cs.drop 0).take (Tryz.prog.cellsOf 3)):=cc0_
 rw [c3] at cc0_
 obtain⟨y1,hy1⟩:∃ y,xs[1]? = some y:=⟨xs[1]'(by rw [hxl];decide),gE (by rw [hxl];decide)⟩
 have h1:=(hf 1 _ rfl).trans hy1
 obtain⟨x1,k1,cc1_⟩:=(vO Tryz.underlying9) H enc n _ _ h1
 replace cc1_:Cs.h (full W) (az.enc x1) ((cs.drop 1).take (Tryz.prog.cellsOf 9)):=cc1_
 rw [c9] at cc1_
 obtain⟨y2,hy2⟩:∃ y,xs[2]? = some y:=⟨xs[2]'(by rw [hxl];decide),gE (by rw [hxl];decide)⟩
 have h2:=(hf 2 _ rfl).trans hy2
 obtain⟨x2,k2,cc2_⟩:=(vO Tryz.underlying9) H enc n _ _ h2
 replace cc2_:Cs.h (full W) (az.enc x2) ((cs.drop 2).take (Tryz.prog.cellsOf 9)):=cc2_
 rw [c9] at cc2_
 obtain⟨y3,hy3⟩:∃ y,xs[3]? = some y:=⟨xs[3]'(by rw [hxl];decide),gE (by rw [hxl];decide)⟩
 have h3:=(hf 3 _ rfl).trans hy3
 obtain⟨x3,k3,cc3_⟩:=(vO Tryz.underlying9) H enc n _ _ h3
 replace cc3_:Cs.h (full W) (az.enc x3) ((cs.drop 3).take (Tryz.prog.cellsOf 9)):=cc3_
 rw [c9] at cc3_
 obtain⟨y4,hy4⟩:∃ y,xs[4]? = some y:=⟨xs[4]'(by rw [hxl];decide),gE (by rw [hxl];decide)⟩
 have h4:=(hf 4 _ rfl).trans hy4
 obtain⟨x4,k4,cc4_⟩:=(vO Tryz.underlying9) H enc n _ _ h4
 replace cc4_:Cs.h (full W) (az.enc x4) ((cs.drop 4).take (Tryz.prog.cellsOf 9)):=cc4_
 rw [c9] at cc4_
 obtain⟨y5,hy5⟩:∃ y,xs[5]? = some y:=⟨xs[5]'(by rw [hxl];decide),gE (by rw [hxl];decide)⟩
 have h5:=(hf 5 _ rfl).trans hy5
 obtain⟨x5,k5,cc5_⟩:=(xN Tryz.underlying4) H enc n _ _ h5
 replace cc5_:Cs.h (full W) (dS.enc x5) ((cs.drop 5).take (Tryz.prog.cellsOf 4)):=cc5_
 rw [c4] at cc5_
 obtain⟨y6,hy6⟩:∃ y,xs[6]? = some y:=⟨xs[6]'(by rw [hxl];decide),gE (by rw [hxl];decide)⟩
 have h6:=(hf 6 _ rfl).trans hy6
 obtain⟨x6,k6,cc6_⟩:=(xN Tryz.underlying4) H enc n _ _ h6
 replace cc6_:Cs.h (full W) (dS.enc x6) ((cs.drop 6).take (Tryz.prog.cellsOf 4)):=cc6_
 rw [c4] at cc6_
 obtain⟨y7,hy7⟩:∃ y,xs[7]? = some y:=⟨xs[7]'(by rw [hxl];decide),gE (by rw [hxl];decide)⟩
 have h7:=(hf 7 _ rfl).trans hy7
 obtain⟨x7,k7,cc7_⟩:=(lR Tryz.underlying3) H enc n _ _ h7
 replace cc7_:Cs.h (full W) ((aP .i64).enc x7) ((cs.drop 7).take (Tryz.prog.cellsOf 3)):=cc7_
 rw [c3] at cc7_
 obtain⟨y8,hy8⟩:∃ y,xs[8]? = some y:=⟨xs[8]'(by rw [hxl];decide),gE (by rw [hxl];decide)⟩
 have h8:=(hf 8 _ rfl).trans hy8
 obtain⟨x8,k8,cc8_⟩:=(lR Tryz.underlying3) H enc n _ _ h8
 replace cc8_:Cs.h (full W) ((aP .i64).enc x8) ((cs.drop 8).take (Tryz.prog.cellsOf 3)):=cc8_
 rw [c3] at cc8_
 obtain⟨y9,hy9⟩:∃ y,xs[9]? = some y:=⟨xs[9]'(by rw [hxl];decide),gE (by rw [hxl];decide)⟩
 have h9:=(hf 9 _ rfl).trans hy9
 obtain⟨x9,k9,cc9_⟩:=(lR Tryz.underlying3) H enc n _ _ h9
 replace cc9_:Cs.h (full W) ((aP .i64).enc x9) ((cs.drop 9).take (Tryz.prog.cellsOf 3)):=cc9_
 rw [c3] at cc9_
 obtain⟨y10,hy10⟩:∃ y,xs[10]? = some y:=⟨xs[10]'(by rw [hxl];decide),gE (by rw [hxl];decide)⟩
 have h10:=(hf 10 _ rfl).trans hy10
 obtain⟨x10,k10,cc10_⟩:=(lR Tryz.underlying3) H enc n _ _ h10
 replace cc10_:Cs.h (full W) ((aP .i64).enc x10) ((cs.drop 10).take (Tryz.prog.cellsOf 3)):=cc10_
 rw [c3] at cc10_
 exact⟨⟨x0,x1,x2,x3,x4,x5,x6,x7,x8,x9,x10⟩,⟨k0,k1,k2,k3,k4,k5,k6,k7,k8,k9,k10,trivial⟩,(show Cs.h (full W) ((aP .i64).enc x0++(az.enc x1++(az.enc x2++(az.enc x3++(az.enc x4++(dS.enc x5++(dS.enc x6++((aP .i64).enc x7++((aP .i64).enc x8++((aP .i64).enc x9++((aP .i64).enc x10++[]))))))))))) (cs.drop 0) from (Cs.at_ (s:=1) cc0_ (Cs.at_ (s:=1) cc1_ (Cs.at_ (s:=1) cc2_ (Cs.at_ (s:=1) cc3_ (Cs.at_ (s:=1) cc4_ (Cs.at_ (s:=1) cc5_ (Cs.at_ (s:=1) cc6_ (Cs.at_ (s:=1) cc7_ (Cs.at_ (s:=1) cc8_ (Cs.at_ (s:=1) cc9_ (Cs.at_ (s:=1) cc10_ (Cs.end_ (Nat.le_of_eq (hlen.trans ij)))))))))))))))⟩
theorem rd43 (W:World):Fi Tryz.prog W 43 cV.K cV.ok:=λH enc fuel cs y h=>by
 obtain⟨xs,n,_,_,hlen,hxl,hf⟩:=DataW.trod_struct Tryz.underlying43 h
 obtain⟨y0,hy0⟩:∃ y,xs[0]? = some y:=⟨xs[0]'(by rw [hxl];decide),gE (by rw [hxl];decide)⟩
 have h0:=(hf 0 _ rfl).trans hy0
 obtain⟨x0,k0,cc0_⟩:=(lR Tryz.underlying3) H enc n _ _ h0
 replace cc0_:Cs.h (full W) ((aP .i64).enc x0) ((cs.drop 0).take (Tryz.prog.cellsOf 3)):=cc0_
 rw [c3] at cc0_
 obtain⟨y1,hy1⟩:∃ y,xs[1]? = some y:=⟨xs[1]'(by rw [hxl];decide),gE (by rw [hxl];decide)⟩
 have h1:=(hf 1 _ rfl).trans hy1
 obtain⟨x1,k1,cc1_⟩:=(lR Tryz.underlying3) H enc n _ _ h1
 replace cc1_:Cs.h (full W) ((aP .i64).enc x1) ((cs.drop 1).take (Tryz.prog.cellsOf 3)):=cc1_
 rw [c3] at cc1_
 obtain⟨y2,hy2⟩:∃ y,xs[2]? = some y:=⟨xs[2]'(by rw [hxl];decide),gE (by rw [hxl];decide)⟩
 have h2:=(hf 2 _ rfl).trans hy2
 obtain⟨x2,k2,cc2_⟩:=(lR Tryz.underlying3) H enc n _ _ h2
 replace cc2_:Cs.h (full W) ((aP .i64).enc x2) ((cs.drop 2).take (Tryz.prog.cellsOf 3)):=cc2_
 rw [c3] at cc2_
 obtain⟨y3,hy3⟩:∃ y,xs[3]? = some y:=⟨xs[3]'(by rw [hxl];decide),gE (by rw [hxl];decide)⟩
 have h3:=(hf 3 _ rfl).trans hy3
 obtain⟨x3,k3,cc3_⟩:=(lR Tryz.underlying3) H enc n _ _ h3
 replace cc3_:Cs.h (full W) ((aP .i64).enc x3) ((cs.drop 3).take (Tryz.prog.cellsOf 3)):=cc3_
 rw [c3] at cc3_
 obtain⟨y4,hy4⟩:∃ y,xs[4]? = some y:=⟨xs[4]'(by rw [hxl];decide),gE (by rw [hxl];decide)⟩
 have h4:=(hf 4 _ rfl).trans hy4
 obtain⟨x4,k4,cc4_⟩:=(lR Tryz.underlying3) H enc n _ _ h4
 replace cc4_:Cs.h (full W) ((aP .i64).enc x4) ((cs.drop 4).take (Tryz.prog.cellsOf 3)):=cc4_
 rw [c3] at cc4_
 obtain⟨y5,hy5⟩:∃ y,xs[5]? = some y:=⟨xs[5]'(by rw [hxl];decide),gE (by rw [hxl];decide)⟩
 have h5:=(hf 5 _ rfl).trans hy5
 obtain⟨x5,k5,cc5_⟩:=(lR Tryz.underlying3) H enc n _ _ h5
 replace cc5_:Cs.h (full W) ((aP .i64).enc x5) ((cs.drop 5).take (Tryz.prog.cellsOf 3)):=cc5_
 rw [c3] at cc5_
 obtain⟨y6,hy6⟩:∃ y,xs[6]? = some y:=⟨xs[6]'(by rw [hxl];decide),gE (by rw [hxl];decide)⟩
 have h6:=(hf 6 _ rfl).trans hy6
 obtain⟨x6,k6,cc6_⟩:=(xN Tryz.underlying4) H enc n _ _ h6
 replace cc6_:Cs.h (full W) (dS.enc x6) ((cs.drop 6).take (Tryz.prog.cellsOf 4)):=cc6_
 rw [c4] at cc6_
 obtain⟨y7,hy7⟩:∃ y,xs[7]? = some y:=⟨xs[7]'(by rw [hxl];decide),gE (by rw [hxl];decide)⟩
 have h7:=(hf 7 _ rfl).trans hy7
 obtain⟨x7,k7,cc7_⟩:=(pI Tryz.underlying40 ij dc (rd80 _)) H enc n _ _ h7
 replace cc7_:Cs.h (full W) ((kF ak.K).enc x7) ((cs.drop 7).take (Tryz.prog.cellsOf 40)):=cc7_
 rw [c40] at cc7_
 obtain⟨y8,hy8⟩:∃ y,xs[8]? = some y:=⟨xs[8]'(by rw [hxl];decide),gE (by rw [hxl];decide)⟩
 have h8:=(hf 8 _ rfl).trans hy8
 obtain⟨x8,k8,cc8_⟩:=(pI Tryz.underlying41 c5 dc (lR Tryz.underlying5)) H enc n _ _ h8
 replace cc8_:Cs.h (full W) ((kF (aP .u8)).enc x8) ((cs.drop 8).take (Tryz.prog.cellsOf 41)):=cc8_
 rw [c41] at cc8_
 obtain⟨y9,hy9⟩:∃ y,xs[9]? = some y:=⟨xs[9]'(by rw [hxl];decide),gE (by rw [hxl];decide)⟩
 have h9:=(hf 9 _ rfl).trans hy9
 obtain⟨x9,k9,cc9_⟩:=(vO Tryz.underlying9) H enc n _ _ h9
 replace cc9_:Cs.h (full W) (az.enc x9) ((cs.drop 9).take (Tryz.prog.cellsOf 9)):=cc9_
 rw [c9] at cc9_
 exact⟨⟨x0,x1,x2,x3,x4,x5,x6,x7,x8,x9⟩,⟨k0,k1,k2,k3,k4,k5,k6,k7,k8,k9,trivial⟩,(show Cs.h (full W) ((aP .i64).enc x0++((aP .i64).enc x1++((aP .i64).enc x2++((aP .i64).enc x3++((aP .i64).enc x4++((aP .i64).enc x5++(dS.enc x6++((kF ak.K).enc x7++((kF (aP .u8)).enc x8++(az.enc x9++[])))))))))) (cs.drop 0) from (Cs.at_ (s:=1) cc0_ (Cs.at_ (s:=1) cc1_ (Cs.at_ (s:=1) cc2_ (Cs.at_ (s:=1) cc3_ (Cs.at_ (s:=1) cc4_ (Cs.at_ (s:=1) cc5_ (Cs.at_ (s:=1) cc6_ (Cs.at_ (s:=1) cc7_ (Cs.at_ (s:=1) cc8_ (Cs.at_ (s:=1) cc9_ (Cs.end_ (Nat.le_of_eq (hlen.trans c43))))))))))))))⟩
theorem tZ:ownKnob Tryz.prog.godebug=none:=kr
theorem nr:laidOutB Tryz.prog=true:=kr
set_option maxRecDepth 100000 in
theorem rI (os:Os) (started:os.Started) (H:Type) (enc:TypeId×Value->H):
  ReturnsInHanded {} Tryz.checked os 4 .any (Rows.serverReadsSpec.pre6 enc Tryz.prog Tryz.f4 Rows.serverReadsRow.domain false) (Rows.serverReadsSpec.post enc Tryz.prog Tryz.f4 false true false false):=by
 refine returnsInHanded_of_change_sized (C:=Tryz.checked) tZ started kr Tryz.func4
  (ChangeSpec.witness6 (enc:=enc) (C:=Tryz.checked) false ⟨#[],#[.slice none 0 0,.slice none 0 0,.slice none 0 0],[]⟩ 8 kr kr kr kr) ?_
 intro W base args ds gs before hval0 hW hcnd hsz0 _
 have hval:∀ (j:Nat) t v,Tryz.f4.params[j]? = some t->args[j]? = some v->Value.okWide Tryz.prog W .any base t v:=hval0
 have hW':=hW
 obtain⟨p,q,hA0,hV,rfl,hfz,hnd⟩:=hW
 have hA:DataW.TrodAll enc Tryz.prog W 0 (λ_=>true) true Tryz.f4.params.toList args.toList ds p:=hA0
 rw [Tryz.params4] at hA hval
 obtain⟨v0,vs0,d0,ds0,p0,q0,hargs,rfl,rfl,h0,r0⟩:=trodAll_cons hA
 obtain⟨v1,vs1,d1,ds1,p1,q1,rfl,rfl,rfl,h1,r1⟩:=trodAll_cons r0
 obtain⟨v2,vs2,d2,ds2,p2,q2,rfl,rfl,rfl,h2,r2⟩:=trodAll_cons r1
 obtain⟨rfl,rfl,rfl⟩:=trodAll_nil r2
 obtain rfl:args = #[v0,v1,v2]:=by cases args;simp_all
 obtain⟨rfl,rfl⟩:=trodVars_none hV
 have z0:=h0
 have lt0:∀ x∈p0,x.block<W.heap.size:=by obtain⟨m,hm⟩:=z0;exact DataW.trod_lt m _ _ _ hm
 obtain⟨a0,k0,c0⟩:=ya (pI Tryz.underlying36 yS dc (HJ _)) h0
 obtain⟨ad0,ln0,cp0,rfl⟩:=okWide_slice Tryz.underlying36 (hval 0 36 v0 rfl rfl)
 have z1:=h1
 have lt1:∀ x∈p1,x.block<W.heap.size:=by obtain⟨m,hm⟩:=z1;exact DataW.trod_lt m _ _ _ hm
 obtain⟨a1,k1,c1⟩:=ya (pI Tryz.underlying36 yS dc (HJ _)) h1
 obtain⟨ad1,ln1,cp1,rfl⟩:=okWide_slice Tryz.underlying36 (hval 1 36 v1 rfl rfl)
 have z2:=h2
 have lt2:∀ x∈p2,x.block<W.heap.size:=by obtain⟨m,hm⟩:=z2;exact DataW.trod_lt m _ _ _ hm
 obtain⟨a2,k2,c2⟩:=ya (pI Tryz.underlying37 c43 dc (rd43 _)) h2
 obtain⟨ad2,ln2,cp2,rfl⟩:=okWide_slice Tryz.underlying37 (hval 2 37 v2 rfl rfl)
 obtain⟨k,hk⟩:=sY a0 a1 a2 k0 k1 k2
 refine(C2 (cD (u0 (λ_=>(cD iD (cD iD (cD (u0 (λ_=>(cD iD ot))) (cD iD ot)))))) (cD (u0 (λ_=>(cD iD (cD iD (cD (u0 (λ_=>(cD iD ot))) (cD iD ot)))))) (cD (u0 (λ_=>(cD iD (cD iD (cD iD (cD iD (cD iD (cD iD (cD iD (cD (u0 (λ_=>(cD iD (cD iD (cD iD (cD iD (cD iD (cD iD (cD iD (cD iD (cD iD (cD iD (cD iD ot))))))))))))) (cD (u0 (λ_=>(cD iD ot))) (cD iD ot)))))))))))) ot))) (aN.c hk) (us:=[_,_,_]) (.cons (yb rfl c0) (.cons (yb rfl c1) (.cons (yb rfl c2) .nil)))).mono λe W' ⟨he,bel⟩=>?_
 subst he
 exact⟨_,rfl,_,_,_,[],_,[],hW',trodAll_mk1 (shut_bool Tryz.underlying4 _),(trodAll_cons_mk (Below.trod nr kr (of_decide_eq_true kr) z0 bel lt0) (trodAll_cons_mk (Below.trod nr kr (of_decide_eq_true kr) z1 bel lt1) (trodAll_cons_mk (Below.trod nr kr (of_decide_eq_true kr) z2 bel lt2) trodAll_mk0))),rfl,bel.frame _,λh=>by cases h⟩
theorem mc {a b:Bool} (h:a=true) (k:b=true):(a&&b)=true:=by rw [h,k];rfl
theorem vM:(Rows.serverReadsRow.wf (OpenSpec.ofChange Rows.serverReadsSpec))=true:=kr
theorem vT:(laidOutB Tryz.prog)=true:=kr
theorem uT:(mapsRowed Tryz.prog)=true:=kr
theorem vn:(Tryz.f4.params.all (Tryz.prog.readableRec ·))=true:=kr
theorem vk:(namedTie Tryz.prog Rows.serverReadsRow.named Rows.serverReadsSpec.vars)=true:=kr
theorem we:(Rows.serverReadsRow.stops==[])=true:=kr
theorem vo:(Tryz.prog.stops==[])=true:=kr
theorem uZ:(Rows.serverReadsRow.knobs==[])=true:=kr
theorem uM:(Tryz.prog.stopKnobs==[])=true:=kr
theorem vv:(Rows.serverReadsRow.inPlace==Tryz.prog.inPlace 4)=true:=kr
theorem tS:(Rows.serverReadsRow.unfollowed==Tryz.prog.unfollowed 4)=true:=kr
theorem tR:(Rows.serverReadsRow.recurses==Tryz.prog.recurses 4)=true:=kr
theorem tL:(Rows.serverReadsRow.named==Tryz.prog.varsNamed 4)=true:=kr
theorem ub:(Rows.serverReadsRow.maps==(Tryz.f4.params.toList++Rows.serverReadsSpec.plain.varTypes Tryz.prog).any (Tryz.prog.mapsRec ·))=true:=kr
theorem tP:(Rows.serverReadsRow.ifaces==(Tryz.f4.params.toList++Rows.serverReadsSpec.plain.varTypes Tryz.prog).any (Tryz.prog.ifacesRec ·))=true:=kr
theorem tV:(Rows.serverReadsRow.mapsOut==Tryz.prog.mapsAmong Tryz.f4.resultTypes.toList)=true:=kr
theorem uk:(Rows.serverReadsRow.loops==(Tryz.f4.params.toList++Rows.serverReadsSpec.plain.varTypes Tryz.prog).any (Tryz.prog.loopsFrom ·))=true:=kr
theorem ui:(Rows.serverReadsRow.wideKeys==(Tryz.f4.params.toList++Rows.serverReadsSpec.plain.varTypes Tryz.prog++Tryz.f4.resultTypes.toList).any (Tryz.prog.wideKeysFrom ·))=true:=kr
theorem uh:(Rows.serverReadsSpec.vars.all (Tryz.prog.varReadable ·))=true:=kr
theorem tW:(Tryz.f4.resultTypes.all (λt=>Tryz.prog.readableRec t&&decide (t<Tryz.prog.types.size)))=true:=kr
theorem tJ:(Rows.serverReadsRow.ifacesOut==Tryz.f4.resultTypes.toList.any (Tryz.prog.ifacesRec ·))=true:=kr
theorem ua:(Rows.serverReadsRow.loopsOut==Tryz.f4.resultTypes.toList.any (Tryz.prog.loopsFrom ·))=true:=kr
theorem tQ:(Rows.serverReadsRow.plainKeys==Tryz.prog.plainKeys)=true:=kr
theorem tM:(Rows.serverReadsRow.shortTexts.isNone)=true:=kr
theorem tN:(Tryz.prog.stopsHeard)=true:=kr
theorem tT:(Tryz.prog.mayEnter)=true:=kr
theorem tY:(Rows.serverReadsRow.lifted==Tryz.prog.liftsFinal)=true:=kr
theorem tU:(Tryz.prog.make==some Rows.serverReadsRow.make)=true:=kr
theorem uf:(Rows.serverReadsRow.kinds==(if Rows.serverReadsRow.domain.isEmpty then [] else Tryz.f4.params.toList.map λt=>match Tryz.prog.underlying t with | some (.int k)=>some k | _=>none))=true:=kr
theorem ug:(Rows.serverReadsRow.pinned==Rows.serverReadsRow.pinnedBy)=true:=kr
theorem ud:(Rows.serverReadsRow.veiled==(Tryz.f4.params.toList++Rows.serverReadsSpec.plain.varTypes Tryz.prog++Tryz.f4.resultTypes.toList).any (Tryz.prog.veiledRec ·))=true:=kr
theorem tK:(Rows.serverReadsRow.veiledFits Tryz.prog Tryz.f4.params.toList (Tryz.f4.params.toList++Rows.serverReadsSpec.plain.varTypes Tryz.prog++Tryz.f4.resultTypes.toList))=true:=kr
theorem ry:joinedFacts Tryz.prog 4 Tryz.f4 Rows.serverReadsSpec Rows.serverReadsRow=true:=
 (mc (mc (mc (mc (mc (mc (mc (mc (mc (mc (mc (mc (mc (mc (mc (mc (mc (mc (mc (mc (mc (mc (mc (mc (mc (mc (mc (mc (mc (mc (mc vM vT) uT) vn) vk) we) vo) uZ) uM) vv) tS) tR) tL) ub) tP) tV) uk) ui) uh) tW) tJ) ua) tQ) tM) tN) tT) tY) tU) uf) ug) ud) tK)
theorem serverReads_holds:Rows.ServerReadsSaid:=
 OpenClaim.holds_of_wide 4 Tryz.f4 rfl rfl rfl rfl rfl rfl rfl ⟨rfl,rfl,rfl,rfl,rfl⟩ rfl rfl rfl rfl rfl kr Tryz.func4 ry
  (of_decide_eq_true kr) (by unfold Func.isWrapper;first | (rw [if_pos (by decide +kernel)];kernel_rfl)|(rw [if_neg (by decide +kernel)];exact⟨rfl,rfl⟩))
  (λos started H enc _=>rI os started H enc)
#print axioms serverReads_holds
end Go.Proofs.YtelcbdmigiacpaaGreat
