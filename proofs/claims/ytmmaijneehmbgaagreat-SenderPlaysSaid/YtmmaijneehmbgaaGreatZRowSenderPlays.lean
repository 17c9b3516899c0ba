import Derived.Test.YtmmaijneehmbgaaGreatZLawSenderPlays
import Derived.Test.YtmmaijneehmbgaaGreatZPureSenderPlays
import Derived.Test.YtmmaijneehmbgaaGreatRows
import Derived.Test.YtmmaijneehmbgaaGreatConR
set_option linter.all false
set_option maxRecDepth 10000
namespace Go.Proofs.YtmmaijneehmbgaaGreat
open Go Go.Sp Go.ChangeShapes Go.WideShapes Go.ChangeAt Go.RowKit
open Go.ChangeMaps (open_string shut_string)
theorem rd144 (W:World):Rdr Tryz.prog W 144 GMade.K GMade.ok:=fun H enc fuel cs y h=>by
 obtain ⟨xs,n,_,_,hlen,hxl,hf⟩:=DataW.trod_struct Tryz.underlying144 h
 obtain ⟨y0,hy0⟩:∃ y,xs[0]? = some y:=⟨xs[0]'(by rw [hxl]; decide),List.getElem?_eq_getElem (by rw [hxl]; decide)⟩
 have h0:=(hf 0 _ rfl).trans hy0
 obtain ⟨x0,k0,cc0_⟩:=(rd_int Tryz.underlying3) H enc n _ _ h0
 replace cc0_:Cs.h (full W) ((intK .i64).enc x0) ((cs.drop 0).take (Tryz.prog.cellsOf 3)):=cc0_
 rw [c3] at cc0_
 obtain ⟨y1,hy1⟩:∃ y,xs[1]? = some y:=⟨xs[1]'(by rw [hxl]; decide),List.getElem?_eq_getElem (by rw [hxl]; decide)⟩
 have h1:=(hf 1 _ rfl).trans hy1
 obtain ⟨x1,k1,cc1_⟩:=(rd_int Tryz.underlying3) H enc n _ _ h1
 replace cc1_:Cs.h (full W) ((intK .i64).enc x1) ((cs.drop 1).take (Tryz.prog.cellsOf 3)):=cc1_
 rw [c3] at cc1_
 obtain ⟨y2,hy2⟩:∃ y,xs[2]? = some y:=⟨xs[2]'(by rw [hxl]; decide),List.getElem?_eq_getElem (by rw [hxl]; decide)⟩
 have h2:=(hf 2 _ rfl).trans hy2
 obtain ⟨x2,k2,cc2_⟩:=(rd_slice Tryz.underlying61 c3 (by decide) (rd_int Tryz.underlying3)) H enc n _ _ h2
 replace cc2_:Cs.h (full W) ((slK (intK .i64)).enc x2) ((cs.drop 2).take (Tryz.prog.cellsOf 61)):=cc2_
 rw [c61] at cc2_
 obtain ⟨y3,hy3⟩:∃ y,xs[3]? = some y:=⟨xs[3]'(by rw [hxl]; decide),List.getElem?_eq_getElem (by rw [hxl]; decide)⟩
 have h3:=(hf 3 _ rfl).trans hy3
 obtain ⟨x3,k3,cc3_⟩:=(rd_int Tryz.underlying3) H enc n _ _ h3
 replace cc3_:Cs.h (full W) ((intK .i64).enc x3) ((cs.drop 3).take (Tryz.prog.cellsOf 3)):=cc3_
 rw [c3] at cc3_
 exact ⟨⟨x0,x1,x2,x3⟩,⟨k0,k1,k2,k3,trivial⟩,(show Cs.h (full W) ((intK .i64).enc x0++((intK .i64).enc x1++((slK (intK .i64)).enc x2++((intK .i64).enc x3++[])))) (cs.drop 0) from (Cs.at_ (s:=1) cc0_ (Cs.at_ (s:=1) cc1_ (Cs.at_ (s:=1) cc2_ (Cs.at_ (s:=1) cc3_ (Cs.end_ (Nat.le_of_eq (hlen.trans c144))))))))⟩
theorem rd32 (W:World):Rdr Tryz.prog W 32 Edu.K Edu.ok:=fun H enc fuel cs y h=>by
 obtain ⟨xs,n,_,_,hlen,hxl,hf⟩:=DataW.trod_struct Tryz.underlying32 h
 obtain ⟨y0,hy0⟩:∃ y,xs[0]? = some y:=⟨xs[0]'(by rw [hxl]; decide),List.getElem?_eq_getElem (by rw [hxl]; decide)⟩
 have h0:=(hf 0 _ rfl).trans hy0
 obtain ⟨x0,k0,cc0_⟩:=(rd_int Tryz.underlying3) H enc n _ _ h0
 replace cc0_:Cs.h (full W) ((intK .i64).enc x0) ((cs.drop 0).take (Tryz.prog.cellsOf 3)):=cc0_
 rw [c3] at cc0_
 obtain ⟨y1,hy1⟩:∃ y,xs[1]? = some y:=⟨xs[1]'(by rw [hxl]; decide),List.getElem?_eq_getElem (by rw [hxl]; decide)⟩
 have h1:=(hf 1 _ rfl).trans hy1
 obtain ⟨x1,k1,cc1_⟩:=(rd_str Tryz.underlying9) H enc n _ _ h1
 replace cc1_:Cs.h (full W) (strK.enc x1) ((cs.drop 1).take (Tryz.prog.cellsOf 9)):=cc1_
 rw [c9] at cc1_
 obtain ⟨y2,hy2⟩:∃ y,xs[2]? = some y:=⟨xs[2]'(by rw [hxl]; decide),List.getElem?_eq_getElem (by rw [hxl]; decide)⟩
 have h2:=(hf 2 _ rfl).trans hy2
 obtain ⟨x2,k2,cc2_⟩:=(rd_str Tryz.underlying9) H enc n _ _ h2
 replace cc2_:Cs.h (full W) (strK.enc x2) ((cs.drop 2).take (Tryz.prog.cellsOf 9)):=cc2_
 rw [c9] at cc2_
 obtain ⟨y3,hy3⟩:∃ y,xs[3]? = some y:=⟨xs[3]'(by rw [hxl]; decide),List.getElem?_eq_getElem (by rw [hxl]; decide)⟩
 have h3:=(hf 3 _ rfl).trans hy3
 obtain ⟨x3,k3,cc3_⟩:=(rd_str Tryz.underlying9) H enc n _ _ h3
 replace cc3_:Cs.h (full W) (strK.enc x3) ((cs.drop 3).take (Tryz.prog.cellsOf 9)):=cc3_
 rw [c9] at cc3_
 obtain ⟨y4,hy4⟩:∃ y,xs[4]? = some y:=⟨xs[4]'(by rw [hxl]; decide),List.getElem?_eq_getElem (by rw [hxl]; decide)⟩
 have h4:=(hf 4 _ rfl).trans hy4
 obtain ⟨x4,k4,cc4_⟩:=(rd_str Tryz.underlying9) H enc n _ _ h4
 replace cc4_:Cs.h (full W) (strK.enc x4) ((cs.drop 4).take (Tryz.prog.cellsOf 9)):=cc4_
 rw [c9] at cc4_
 obtain ⟨y5,hy5⟩:∃ y,xs[5]? = some y:=⟨xs[5]'(by rw [hxl]; decide),List.getElem?_eq_getElem (by rw [hxl]; decide)⟩
 have h5:=(hf 5 _ rfl).trans hy5
 obtain ⟨x5,k5,cc5_⟩:=(rd_bool Tryz.underlying4) H enc n _ _ h5
 replace cc5_:Cs.h (full W) (boolK.enc x5) ((cs.drop 5).take (Tryz.prog.cellsOf 4)):=cc5_
 rw [c4] at cc5_
 obtain ⟨y6,hy6⟩:∃ y,xs[6]? = some y:=⟨xs[6]'(by rw [hxl]; decide),List.getElem?_eq_getElem (by rw [hxl]; decide)⟩
 have h6:=(hf 6 _ rfl).trans hy6
 obtain ⟨x6,k6,cc6_⟩:=(rd_bool Tryz.underlying4) H enc n _ _ h6
 replace cc6_:Cs.h (full W) (boolK.enc x6) ((cs.drop 6).take (Tryz.prog.cellsOf 4)):=cc6_
 rw [c4] at cc6_
 obtain ⟨y7,hy7⟩:∃ y,xs[7]? = some y:=⟨xs[7]'(by rw [hxl]; decide),List.getElem?_eq_getElem (by rw [hxl]; decide)⟩
 have h7:=(hf 7 _ rfl).trans hy7
 obtain ⟨x7,k7,cc7_⟩:=(rd_int Tryz.underlying3) H enc n _ _ h7
 replace cc7_:Cs.h (full W) ((intK .i64).enc x7) ((cs.drop 7).take (Tryz.prog.cellsOf 3)):=cc7_
 rw [c3] at cc7_
 obtain ⟨y8,hy8⟩:∃ y,xs[8]? = some y:=⟨xs[8]'(by rw [hxl]; decide),List.getElem?_eq_getElem (by rw [hxl]; decide)⟩
 have h8:=(hf 8 _ rfl).trans hy8
 obtain ⟨x8,k8,cc8_⟩:=(rd_int Tryz.underlying3) H enc n _ _ h8
 replace cc8_:Cs.h (full W) ((intK .i64).enc x8) ((cs.drop 8).take (Tryz.prog.cellsOf 3)):=cc8_
 rw [c3] at cc8_
 obtain ⟨y9,hy9⟩:∃ y,xs[9]? = some y:=⟨xs[9]'(by rw [hxl]; decide),List.getElem?_eq_getElem (by rw [hxl]; decide)⟩
 have h9:=(hf 9 _ rfl).trans hy9
 obtain ⟨x9,k9,cc9_⟩:=(rd_int Tryz.underlying3) H enc n _ _ h9
 replace cc9_:Cs.h (full W) ((intK .i64).enc x9) ((cs.drop 9).take (Tryz.prog.cellsOf 3)):=cc9_
 rw [c3] at cc9_
 obtain ⟨y10,hy10⟩:∃ y,xs[10]? = some y:=⟨xs[10]'(by rw [hxl]; decide),List.getElem?_eq_getElem (by rw [hxl]; decide)⟩
 have h10:=(hf 10 _ rfl).trans hy10
 obtain ⟨x10,k10,cc10_⟩:=(rd_int Tryz.underlying3) H enc n _ _ h10
 replace cc10_:Cs.h (full W) ((intK .i64).enc x10) ((cs.drop 10).take (Tryz.prog.cellsOf 3)):=cc10_
 rw [c3] at cc10_
 exact ⟨⟨x0,x1,x2,x3,x4,x5,x6,x7,x8,x9,x10⟩,⟨k0,k1,k2,k3,k4,k5,k6,k7,k8,k9,k10,trivial⟩,(show Cs.h (full W) ((intK .i64).enc x0++(strK.enc x1++(strK.enc x2++(strK.enc x3++(strK.enc x4++(boolK.enc x5++(boolK.enc x6++((intK .i64).enc x7++((intK .i64).enc x8++((intK .i64).enc x9++((intK .i64).enc x10++[]))))))))))) (cs.drop 0) from (Cs.at_ (s:=1) cc0_ (Cs.at_ (s:=1) cc1_ (Cs.at_ (s:=1) cc2_ (Cs.at_ (s:=1) cc3_ (Cs.at_ (s:=1) cc4_ (Cs.at_ (s:=1) cc5_ (Cs.at_ (s:=1) cc6_ (Cs.at_ (s:=1) cc7_ (Cs.at_ (s:=1) cc8_ (Cs.at_ (s:=1) cc9_ (Cs.at_ (s:=1) cc10_ (Cs.end_ (Nat.le_of_eq (hlen.trans c32)))))))))))))))⟩
theorem rd83 (W:World):Rdr Tryz.prog W 83 SStep.K SStep.ok:=fun H enc fuel cs y h=>by
 obtain ⟨xs,n,_,_,hlen,hxl,hf⟩:=DataW.trod_struct Tryz.underlying83 h
 obtain ⟨y0,hy0⟩:∃ y,xs[0]? = some y:=⟨xs[0]'(by rw [hxl]; decide),List.getElem?_eq_getElem (by rw [hxl]; decide)⟩
 have h0:=(hf 0 _ rfl).trans hy0
 obtain ⟨x0,k0,cc0_⟩:=(rd_int Tryz.underlying3) H enc n _ _ h0
 replace cc0_:Cs.h (full W) ((intK .i64).enc x0) ((cs.drop 0).take (Tryz.prog.cellsOf 3)):=cc0_
 rw [c3] at cc0_
 obtain ⟨y1,hy1⟩:∃ y,xs[1]? = some y:=⟨xs[1]'(by rw [hxl]; decide),List.getElem?_eq_getElem (by rw [hxl]; decide)⟩
 have h1:=(hf 1 _ rfl).trans hy1
 obtain ⟨x1,k1,cc1_⟩:=(rd_int Tryz.underlying3) H enc n _ _ h1
 replace cc1_:Cs.h (full W) ((intK .i64).enc x1) ((cs.drop 1).take (Tryz.prog.cellsOf 3)):=cc1_
 rw [c3] at cc1_
 obtain ⟨y2,hy2⟩:∃ y,xs[2]? = some y:=⟨xs[2]'(by rw [hxl]; decide),List.getElem?_eq_getElem (by rw [hxl]; decide)⟩
 have h2:=(hf 2 _ rfl).trans hy2
 obtain ⟨x2,k2,cc2_⟩:=(rd32 _) H enc n _ _ h2
 replace cc2_:Cs.h (full W) (Edu.K.enc x2) ((cs.drop 2).take (Tryz.prog.cellsOf 32)):=cc2_
 rw [c32] at cc2_
 exact ⟨⟨x0,x1,x2⟩,⟨k0,k1,k2,trivial⟩,(show Cs.h (full W) ((intK .i64).enc x0++((intK .i64).enc x1++(Edu.K.enc x2++[]))) (cs.drop 0) from (Cs.at_ (s:=1) cc0_ (Cs.at_ (s:=1) cc1_ (Cs.at_ (s:=11) cc2_ (Cs.end_ (Nat.le_of_eq (hlen.trans c83)))))))⟩
theorem senderPlays_own:ownKnob Tryz.prog.godebug=none:=by kernel_rfl
theorem senderPlays_laid:laidOutB Tryz.prog=true:=by kernel_rfl
set_option maxRecDepth 100000 in
theorem senderPlays_lifted (os:Os) (started:os.Started) (H:Type) (enc:TypeId×Value→H):
  ReturnsInHanded {} Tryz.checked os 8 .any (Rows.senderPlaysSpec.pre6 enc Tryz.prog Tryz.f8 Rows.senderPlaysRow.domain false) (Rows.senderPlaysSpec.post enc Tryz.prog Tryz.f8 false true false false):=by
 refine returnsInHanded_of_change_sized (C:=Tryz.checked) senderPlays_own started (by kernel_rfl) Tryz.func8
  (ChangeSpec.witness6 (enc:=enc) (C:=Tryz.checked) false ⟨#[],#[.int .i64 0,.slice none 0 0,.slice none 0 0,.slice none 0 0],[]⟩ 8 (by kernel_rfl) (by kernel_rfl) (by kernel_rfl) (by kernel_rfl)) ?_
 intro W base args ds gs before hval0 hW hcnd hsz0 _
 have hval:∀ (j:Nat) t v,Tryz.f8.params[j]? = some t→args[j]? = some v→Value.okWide Tryz.prog W .any base t v:=hval0
 have hW':=hW
 obtain ⟨p,q,hA0,hV,rfl,hfz,hnd⟩:=hW
 have hA:DataW.TrodAll enc Tryz.prog W 0 (fun _=>true) true Tryz.f8.params.toList args.toList ds p:=hA0
 rw [Tryz.params8] at hA hval
 obtain ⟨v0,vs0,d0,ds0,p0,q0,hargs,rfl,rfl,h0,r0⟩:=trodAll_cons hA
 obtain ⟨v1,vs1,d1,ds1,p1,q1,rfl,rfl,rfl,h1,r1⟩:=trodAll_cons r0
 obtain ⟨v2,vs2,d2,ds2,p2,q2,rfl,rfl,rfl,h2,r2⟩:=trodAll_cons r1
 obtain ⟨v3,vs3,d3,ds3,p3,q3,rfl,rfl,rfl,h3,r3⟩:=trodAll_cons r2
 obtain ⟨rfl,rfl,rfl⟩:=trodAll_nil r3
 obtain rfl:args = #[v0,v1,v2,v3]:=by cases args; simp_all
 obtain ⟨rfl,rfl⟩:=trodVars_none hV
 have z0:=h0
 have lt0:∀ x∈p0,x.block<W.heap.size:=by obtain ⟨m,hm⟩:=z0; exact DataW.trod_lt m _ _ _ hm
 obtain ⟨a0,rfl,e0,rfl,k0⟩:=open_int Tryz.underlying3 (hval 0 3 v0 rfl rfl) h0
 have z1:=h1
 have lt1:∀ x∈p1,x.block<W.heap.size:=by obtain ⟨m,hm⟩:=z1; exact DataW.trod_lt m _ _ _ hm
 obtain ⟨a1,k1,c1⟩:=trodAny (rd_slice Tryz.underlying22 c144 (by decide) (rd144 _)) h1
 obtain ⟨ad1,ln1,cp1,rfl⟩:=okWide_slice Tryz.underlying22 (hval 1 22 v1 rfl rfl)
 have z2:=h2
 have lt2:∀ x∈p2,x.block<W.heap.size:=by obtain ⟨m,hm⟩:=z2; exact DataW.trod_lt m _ _ _ hm
 obtain ⟨a2,k2,c2⟩:=trodAny (rd_slice Tryz.underlying22 c144 (by decide) (rd144 _)) h2
 obtain ⟨ad2,ln2,cp2,rfl⟩:=okWide_slice Tryz.underlying22 (hval 2 22 v2 rfl rfl)
 have z3:=h3
 have lt3:∀ x∈p3,x.block<W.heap.size:=by obtain ⟨m,hm⟩:=z3; exact DataW.trod_lt m _ _ _ hm
 obtain ⟨a3,k3,c3⟩:=trodAny (rd_slice Tryz.underlying75 c83 (by decide) (rd83 _)) h3
 obtain ⟨ad3,ln3,cp3,rfl⟩:=okWide_slice Tryz.underlying75 (hval 3 75 v3 rfl rfl)
 obtain ⟨k,hk⟩:=SenderPlays_pure a0 a1 a2 a3 k0 k1 k2 k3
 refine (law_walk (w18_SenderPlays.c hk) (us:=[_,_,_,_]) (.cons rfl (.cons (arg_one rfl c1) (.cons (arg_one rfl c2) (.cons (arg_one rfl c3) .nil))))).mono fun e W' ⟨he,bel⟩=>?_
 subst he
 exact ⟨_,rfl,_,_,_,[],_,[],hW',trodAll_mk1 (shut_bool Tryz.underlying4 _),(trodAll_cons_mk (Below.trod senderPlays_laid (by kernel_rfl) (of_decide_eq_true (by kernel_rfl)) z0 bel lt0) (trodAll_cons_mk (Below.trod senderPlays_laid (by kernel_rfl) (of_decide_eq_true (by kernel_rfl)) z1 bel lt1) (trodAll_cons_mk (Below.trod senderPlays_laid (by kernel_rfl) (of_decide_eq_true (by kernel_rfl)) z2 bel lt2) (trodAll_cons_mk (Below.trod senderPlays_laid (by kernel_rfl) (of_decide_eq_true (by kernel_rfl)) z3 bel lt3) trodAll_mk0)))),rfl,bel.frame _,fun h=>by cases h⟩
theorem senderPlays_holds:Rows.SenderPlaysSaid:=
 OpenClaim.holds_of_wide 8 Tryz.f8 rfl rfl rfl rfl rfl rfl rfl ⟨rfl,rfl,rfl,rfl,rfl⟩ rfl rfl rfl rfl rfl (by kernel_rfl) Tryz.func8 (by kernel_rfl)
  (of_decide_eq_true (by kernel_rfl)) (by unfold Func.isWrapper; first | (rw [if_pos (by decide +kernel)]; kernel_rfl) | (rw [if_neg (by decide +kernel)]; exact ⟨rfl,rfl⟩))
  (fun os started H enc _=>senderPlays_lifted os started H enc)
#print axioms senderPlays_holds
end Go.Proofs.YtmmaijneehmbgaaGreat
