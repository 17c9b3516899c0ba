import Derived.Test.YtfknmdelgepbjaaGreatDoorVZLawSyncMakes
import Derived.Test.YtfknmdelgepbjaaGreatDoorVZPureSyncMakes
import Derived.Test.YtfknmdelgepbjaaGreatDoorRows
import Derived.Test.YtfknmdelgepbjaaGreatDoorTie
import Derived.Test.YtfknmdelgepbjaaGreatDoorCards
import Derived.Lay
import Derived.LaidLaws
import Derived.LaidMore
import Derived.SevenTiedAt
import Derived.MakeChecks
import Derived.Stop.Joined
set_option linter.all false
set_option maxRecDepth 10000
namespace Go.Proofs.YtfknmdelgepbjaaGreatDoor
open Go Go.Sp Go.ChangeShapes Go.WideShapes Go.ChangeAt Go.RowKit
open Go.ChangeMaps (open_string shut_string)
theorem JM (W:World):JV Tryz.prog W 198 dz.K dz.ok:=fun H enc fuel cs y h=>by
 obtain ⟨xs,n,_,_,hlen,hxl,hf⟩:=DataW.trod_struct Tryz.underlying198 h
 obtain ⟨y0,hy0⟩:∃ y,xs[0]? = some y:=⟨xs[0]'(by rw [hxl]; decide),gE (by rw [hxl]; decide)⟩
 have h0:=(hf 0 _ rfl).trans hy0
 obtain ⟨x0,k0,cc0_⟩:=(oX Tryz.underlying3) H enc n _ _ h0
 replace cc0_:Cs.h (full W) ((bq .i64).enc x0) ((cs.drop 0).take (Tryz.prog.cellsOf 3)):=cc0_
 rw [c3] at cc0_
 obtain ⟨y1,hy1⟩:∃ y,xs[1]? = some y:=⟨xs[1]'(by rw [hxl]; decide),gE (by rw [hxl]; decide)⟩
 have h1:=(hf 1 _ rfl).trans hy1
 obtain ⟨x1,k1,cc1_⟩:=(oX Tryz.underlying3) H enc n _ _ h1
 replace cc1_:Cs.h (full W) ((bq .i64).enc x1) ((cs.drop 1).take (Tryz.prog.cellsOf 3)):=cc1_
 rw [c3] at cc1_
 obtain ⟨y2,hy2⟩:∃ y,xs[2]? = some y:=⟨xs[2]'(by rw [hxl]; decide),gE (by rw [hxl]; decide)⟩
 have h2:=(hf 2 _ rfl).trans hy2
 obtain ⟨x2,k2,cc2_⟩:=(rD Tryz.underlying38 c3 dc (oX Tryz.underlying3)) H enc n _ _ h2
 replace cc2_:Cs.h (full W) ((slK (bq .i64)).enc x2) ((cs.drop 2).take (Tryz.prog.cellsOf 38)):=cc2_
 rw [c38] at cc2_
 obtain ⟨y3,hy3⟩:∃ y,xs[3]? = some y:=⟨xs[3]'(by rw [hxl]; decide),gE (by rw [hxl]; decide)⟩
 have h3:=(hf 3 _ rfl).trans hy3
 obtain ⟨x3,k3,cc3_⟩:=(oX Tryz.underlying3) H enc n _ _ h3
 replace cc3_:Cs.h (full W) ((bq .i64).enc x3) ((cs.drop 3).take (Tryz.prog.cellsOf 3)):=cc3_
 rw [c3] at cc3_
 exact ⟨⟨x0,x1,x2,x3⟩,⟨k0,k1,k2,k3,trivial⟩,(show Cs.h (full W) ((bq .i64).enc x0++((bq .i64).enc x1++((slK (bq .i64)).enc x2++((bq .i64).enc x3++[])))) (cs.drop 0) from (Cs.at_ (s:=1) cc0_ (Cs.at_ (s:=1) cc1_ (Cs.at_ (s:=1) cc2_ (Cs.at_ (s:=1) cc3_ (Cs.end_ (Nat.le_of_eq (hlen.trans Aq))))))))⟩
theorem rd52 (W:World):JV Tryz.prog W 52 ak.K ak.ok:=fun H enc fuel cs y h=>by
 obtain ⟨xs,n,_,_,hlen,hxl,hf⟩:=DataW.trod_struct Tryz.underlying52 h
 obtain ⟨y0,hy0⟩:∃ y,xs[0]? = some y:=⟨xs[0]'(by rw [hxl]; decide),gE (by rw [hxl]; decide)⟩
 have h0:=(hf 0 _ rfl).trans hy0
 obtain ⟨x0,k0,cc0_⟩:=(oX Tryz.underlying3) H enc n _ _ h0
 replace cc0_:Cs.h (full W) ((bq .i64).enc x0) ((cs.drop 0).take (Tryz.prog.cellsOf 3)):=cc0_
 rw [c3] at cc0_
 obtain ⟨y1,hy1⟩:∃ y,xs[1]? = some y:=⟨xs[1]'(by rw [hxl]; decide),gE (by rw [hxl]; decide)⟩
 have h1:=(hf 1 _ rfl).trans hy1
 obtain ⟨x1,k1,cc1_⟩:=(yC Tryz.underlying9) H enc n _ _ h1
 replace cc1_:Cs.h (full W) (aw.enc x1) ((cs.drop 1).take (Tryz.prog.cellsOf 9)):=cc1_
 rw [c9] at cc1_
 obtain ⟨y2,hy2⟩:∃ y,xs[2]? = some y:=⟨xs[2]'(by rw [hxl]; decide),gE (by rw [hxl]; decide)⟩
 have h2:=(hf 2 _ rfl).trans hy2
 obtain ⟨x2,k2,cc2_⟩:=(yC Tryz.underlying9) H enc n _ _ h2
 replace cc2_:Cs.h (full W) (aw.enc x2) ((cs.drop 2).take (Tryz.prog.cellsOf 9)):=cc2_
 rw [c9] at cc2_
 obtain ⟨y3,hy3⟩:∃ y,xs[3]? = some y:=⟨xs[3]'(by rw [hxl]; decide),gE (by rw [hxl]; decide)⟩
 have h3:=(hf 3 _ rfl).trans hy3
 obtain ⟨x3,k3,cc3_⟩:=(yC Tryz.underlying9) H enc n _ _ h3
 replace cc3_:Cs.h (full W) (aw.enc x3) ((cs.drop 3).take (Tryz.prog.cellsOf 9)):=cc3_
 rw [c9] at cc3_
 obtain ⟨y4,hy4⟩:∃ y,xs[4]? = some y:=⟨xs[4]'(by rw [hxl]; decide),gE (by rw [hxl]; decide)⟩
 have h4:=(hf 4 _ rfl).trans hy4
 obtain ⟨x4,k4,cc4_⟩:=(yC Tryz.underlying9) H enc n _ _ h4
 replace cc4_:Cs.h (full W) (aw.enc x4) ((cs.drop 4).take (Tryz.prog.cellsOf 9)):=cc4_
 rw [c9] at cc4_
 obtain ⟨y5,hy5⟩:∃ y,xs[5]? = some y:=⟨xs[5]'(by rw [hxl]; decide),gE (by rw [hxl]; decide)⟩
 have h5:=(hf 5 _ rfl).trans hy5
 obtain ⟨x5,k5,cc5_⟩:=(CB Tryz.underlying4) H enc n _ _ h5
 replace cc5_:Cs.h (full W) (cG.enc x5) ((cs.drop 5).take (Tryz.prog.cellsOf 4)):=cc5_
 rw [c4] at cc5_
 obtain ⟨y6,hy6⟩:∃ y,xs[6]? = some y:=⟨xs[6]'(by rw [hxl]; decide),gE (by rw [hxl]; decide)⟩
 have h6:=(hf 6 _ rfl).trans hy6
 obtain ⟨x6,k6,cc6_⟩:=(CB Tryz.underlying4) H enc n _ _ h6
 replace cc6_:Cs.h (full W) (cG.enc x6) ((cs.drop 6).take (Tryz.prog.cellsOf 4)):=cc6_
 rw [c4] at cc6_
 obtain ⟨y7,hy7⟩:∃ y,xs[7]? = some y:=⟨xs[7]'(by rw [hxl]; decide),gE (by rw [hxl]; decide)⟩
 have h7:=(hf 7 _ rfl).trans hy7
 obtain ⟨x7,k7,cc7_⟩:=(oX Tryz.underlying3) H enc n _ _ h7
 replace cc7_:Cs.h (full W) ((bq .i64).enc x7) ((cs.drop 7).take (Tryz.prog.cellsOf 3)):=cc7_
 rw [c3] at cc7_
 obtain ⟨y8,hy8⟩:∃ y,xs[8]? = some y:=⟨xs[8]'(by rw [hxl]; decide),gE (by rw [hxl]; decide)⟩
 have h8:=(hf 8 _ rfl).trans hy8
 obtain ⟨x8,k8,cc8_⟩:=(oX Tryz.underlying3) H enc n _ _ h8
 replace cc8_:Cs.h (full W) ((bq .i64).enc x8) ((cs.drop 8).take (Tryz.prog.cellsOf 3)):=cc8_
 rw [c3] at cc8_
 obtain ⟨y9,hy9⟩:∃ y,xs[9]? = some y:=⟨xs[9]'(by rw [hxl]; decide),gE (by rw [hxl]; decide)⟩
 have h9:=(hf 9 _ rfl).trans hy9
 obtain ⟨x9,k9,cc9_⟩:=(oX Tryz.underlying3) H enc n _ _ h9
 replace cc9_:Cs.h (full W) ((bq .i64).enc x9) ((cs.drop 9).take (Tryz.prog.cellsOf 3)):=cc9_
 rw [c3] at cc9_
 obtain ⟨y10,hy10⟩:∃ y,xs[10]? = some y:=⟨xs[10]'(by rw [hxl]; decide),gE (by rw [hxl]; decide)⟩
 have h10:=(hf 10 _ rfl).trans hy10
 obtain ⟨x10,k10,cc10_⟩:=(oX Tryz.underlying3) H enc n _ _ h10
 replace cc10_:Cs.h (full W) ((bq .i64).enc x10) ((cs.drop 10).take (Tryz.prog.cellsOf 3)):=cc10_
 rw [c3] at cc10_
 exact ⟨⟨x0,x1,x2,x3,x4,x5,x6,x7,x8,x9,x10⟩,⟨k0,k1,k2,k3,k4,k5,k6,k7,k8,k9,k10,trivial⟩,(show Cs.h (full W) ((bq .i64).enc x0++(aw.enc x1++(aw.enc x2++(aw.enc x3++(aw.enc x4++(cG.enc x5++(cG.enc x6++((bq .i64).enc x7++((bq .i64).enc x8++((bq .i64).enc x9++((bq .i64).enc x10++[]))))))))))) (cs.drop 0) from (Cs.at_ (s:=1) cc0_ (Cs.at_ (s:=1) cc1_ (Cs.at_ (s:=1) cc2_ (Cs.at_ (s:=1) cc3_ (Cs.at_ (s:=1) cc4_ (Cs.at_ (s:=1) cc5_ (Cs.at_ (s:=1) cc6_ (Cs.at_ (s:=1) cc7_ (Cs.at_ (s:=1) cc8_ (Cs.at_ (s:=1) cc9_ (Cs.at_ (s:=1) cc10_ (Cs.end_ (Nat.le_of_eq (hlen.trans iy)))))))))))))))⟩
def gZ : List (String × DataW Unit) := [("unicode/utf8.acceptRanges", Rows.laid_unicode_utf8_acceptRanges), ("unicode/utf8.first", Rows.laid_unicode_utf8_first)]
theorem wM (os:Os) (args:Array Value):laidMetH Tryz.prog gZ ((World.laidAll Tryz.prog os gZ).forCall (fun _ _=>0) ⟨#[],args,[]⟩).memory:=by
 rw [MakeChecks.laidMetH_plain _ _ _ kr]
 exact laidMet_laidAll _ kr kr
theorem wU:ownKnob Tryz.prog.godebug=none:=kr
theorem il:laidOutB Tryz.prog=true:=kr
set_option maxRecDepth 100000 in
theorem sA (os:Os) (started:os.Started) (H:Type) (enc:TypeId×Value→H):
  ReturnsInHanded {} Tryz.checked os 3 .any (fun w args=>(Rows.syncMakesSpec.pre enc Tryz.prog Tryz.f3 Rows.syncMakesRow.domain false w args∧laidMetH Tryz.prog gZ w)∧sizedMet enc Tryz.prog Tryz.f3 (OpenSpec.ofChange Rows.syncMakesSpec) false w args) (Rows.syncMakesSpec.post enc Tryz.prog Tryz.f3 false true false false):=by
 refine returnsInHanded_of_change_and (C:=Tryz.checked) (X:=fun w _=>laidMetH Tryz.prog gZ w) (fun _ _ _ hh h=>h.of_heap hh) wU started kr Tryz.func3
  (ChangeSpec.witness_shaped (enc:=enc) (C:=Tryz.checked) (os:=os) (X:=fun w _=>laidMetH Tryz.prog gZ w) false (World.laidAll Tryz.prog os gZ) #[.slice none 0 0,.slice none 0 0,.slice none 0 0,.int .i64 0,.int .i64 0,.int .i64 0,.int .i64 0] 8 (World.laidAll_os _ _ _) (World.shaped_of_ZipB kr kr) kr kr kr (wM os _)) ?_
 intro W base args ds gs before hval0 hW hcnd hsz0 hL _
 have hval:∀ (j:Nat) t v,Tryz.f3.params[j]? = some t→args[j]? = some v→Value.okWide Tryz.prog W .any base t v:=hval0
 have hW':=hW
 obtain ⟨p,q,hA0,hV,rfl,hfz,hnd⟩:=hW
 have hA:DataW.TrodAll enc Tryz.prog W 0 (fun _=>true) true Tryz.f3.params.toList args.toList ds p:=hA0
 rw [Tryz.params3] at hA hval
 obtain ⟨v0,vs0,d0,ds0,p0,q0,hargs,rfl,rfl,h0,r0⟩:=trodAll_cons hA
 obtain ⟨v1,vs1,d1,ds1,p1,q1,rfl,rfl,rfl,h1,r1⟩:=trodAll_cons r0
 obtain ⟨v2,vs2,d2,ds2,p2,q2,rfl,rfl,rfl,h2,r2⟩:=trodAll_cons r1
 obtain ⟨v3,vs3,d3,ds3,p3,q3,rfl,rfl,rfl,h3,r3⟩:=trodAll_cons r2
 obtain ⟨v4,vs4,d4,ds4,p4,q4,rfl,rfl,rfl,h4,r4⟩:=trodAll_cons r3
 obtain ⟨v5,vs5,d5,ds5,p5,q5,rfl,rfl,rfl,h5,r5⟩:=trodAll_cons r4
 obtain ⟨v6,vs6,d6,ds6,p6,q6,rfl,rfl,rfl,h6,r6⟩:=trodAll_cons r5
 obtain ⟨rfl,rfl,rfl⟩:=trodAll_nil r6
 obtain rfl:args = #[v0,v1,v2,v3,v4,v5,v6]:=by cases args; simp_all
 obtain ⟨rfl,rfl⟩:=trodVars_none hV
 have z0:=h0
 have lt0:∀ x∈p0,x.block<W.heap.size:=by obtain ⟨m,hm⟩:=z0; exact DataW.trod_lt m _ _ _ hm
 obtain ⟨a0,k0,c0⟩:=zA (rD Tryz.underlying22 Aq dc (JM _)) h0
 obtain ⟨ad0,ln0,cp0,rfl⟩:=okWide_slice Tryz.underlying22 (hval 0 22 v0 rfl rfl)
 have z1:=h1
 have lt1:∀ x∈p1,x.block<W.heap.size:=by obtain ⟨m,hm⟩:=z1; exact DataW.trod_lt m _ _ _ hm
 obtain ⟨a1,k1,c1⟩:=zA (rD Tryz.underlying22 Aq dc (JM _)) h1
 obtain ⟨ad1,ln1,cp1,rfl⟩:=okWide_slice Tryz.underlying22 (hval 1 22 v1 rfl rfl)
 have z2:=h2
 have lt2:∀ x∈p2,x.block<W.heap.size:=by obtain ⟨m,hm⟩:=z2; exact DataW.trod_lt m _ _ _ hm
 obtain ⟨a2,k2,c2⟩:=zA (rD Tryz.underlying23 iy dc (rd52 _)) h2
 obtain ⟨ad2,ln2,cp2,rfl⟩:=okWide_slice Tryz.underlying23 (hval 2 23 v2 rfl rfl)
 have z3:=h3
 have lt3:∀ x∈p3,x.block<W.heap.size:=by obtain ⟨m,hm⟩:=z3; exact DataW.trod_lt m _ _ _ hm
 obtain ⟨a3,rfl,e3,rfl,k3⟩:=open_int Tryz.underlying3 (hval 3 3 v3 rfl rfl) h3
 have z4:=h4
 have lt4:∀ x∈p4,x.block<W.heap.size:=by obtain ⟨m,hm⟩:=z4; exact DataW.trod_lt m _ _ _ hm
 obtain ⟨a4,rfl,e4,rfl,k4⟩:=open_int Tryz.underlying3 (hval 4 3 v4 rfl rfl) h4
 have z5:=h5
 have lt5:∀ x∈p5,x.block<W.heap.size:=by obtain ⟨m,hm⟩:=z5; exact DataW.trod_lt m _ _ _ hm
 obtain ⟨a5,rfl,e5,rfl,k5⟩:=open_int Tryz.underlying3 (hval 5 3 v5 rfl rfl) h5
 have z6:=h6
 have lt6:∀ x∈p6,x.block<W.heap.size:=by obtain ⟨m,hm⟩:=z6; exact DataW.trod_lt m _ _ _ hm
 obtain ⟨a6,rfl,e6,rfl,k6⟩:=open_int Tryz.underlying3 (hval 6 3 v6 rfl rfl) h6
 obtain ⟨k,hk⟩:=uW a0 a1 a2 a3 a4 a5 a6 k0 k1 k2 k3 k4 k5 k6
 refine (EG (bL (yd (fun _=>(bL gL (bL gL (bL (yd (fun _=>(bL gL my))) (bL gL my)))))) (bL (yd (fun _=>(bL gL (bL gL (bL (yd (fun _=>(bL gL my))) (bL gL my)))))) (bL (yd (fun _=>(bL gL (bL gL (bL gL (bL gL (bL gL (bL gL (bL gL (bL gL (bL gL (bL gL (bL gL my))))))))))))) (bL gL (bL gL (bL gL (bL gL my))))))) (bF.c hk) (us:=[_,_,_,_,_,_,_]) (.cons (yW rfl c0) (.cons (yW rfl c1) (.cons (yW rfl c2) (.cons rfl (.cons rfl (.cons rfl (.cons rfl .nil)))))))).mono fun e W' ⟨he,bel⟩=>?_
 subst he
 exact ⟨_,rfl,_,_,_,[],_,[],hW',trodAll_mk1 (shut_bool Tryz.underlying4 _),(trodAll_cons_mk (Below.trod il kr (of_decide_eq_true kr) z0 bel lt0) (trodAll_cons_mk (Below.trod il kr (of_decide_eq_true kr) z1 bel lt1) (trodAll_cons_mk (Below.trod il kr (of_decide_eq_true kr) z2 bel lt2) (trodAll_cons_mk (Below.trod il kr (of_decide_eq_true kr) z3 bel lt3) (trodAll_cons_mk (Below.trod il kr (of_decide_eq_true kr) z4 bel lt4) (trodAll_cons_mk (Below.trod il kr (of_decide_eq_true kr) z5 bel lt5) (trodAll_cons_mk (Below.trod il kr (of_decide_eq_true kr) z6 bel lt6) trodAll_mk0))))))),rfl,bel.frame _,fun h=>by cases h⟩
theorem lB {a b:Bool} (h:a=true) (k:b=true):(a&&b)=true:=by rw [h,k]; rfl
theorem yU:(Rows.syncMakesRow.wf (OpenSpec.ofChange Rows.syncMakesSpec))=true:=kr
theorem zi:(laidOutB Tryz.prog)=true:=kr
theorem zf:(mapsRowed Tryz.prog)=true:=kr
theorem zj:(Tryz.f3.params.all (Tryz.prog.readableRec ·))=true:=kr
theorem zH:(namedTie Tryz.prog Rows.syncMakesRow.named Rows.syncMakesSpec.vars)=true:=kr
theorem yw:(Rows.syncMakesRow.stops==[])=true:=kr
theorem yx:(Tryz.prog.stops==[])=true:=kr
theorem yY:(Rows.syncMakesRow.knobs==[])=true:=kr
theorem zv:(Tryz.prog.stopKnobs==[])=true:=kr
theorem zg:(Rows.syncMakesRow.inPlace==Tryz.prog.inPlace 3)=true:=kr
theorem w7:(Rows.syncMakesRow.unfollowed==Tryz.prog.unfollowed 3)=true:=kr
theorem w6:(Rows.syncMakesRow.recurses==Tryz.prog.recurses 3)=true:=kr
theorem wZ:(Rows.syncMakesRow.named==Tryz.prog.varsNamed 3)=true:=kr
theorem w8:(Rows.syncMakesRow.maps==(Tryz.f3.params.toList++Rows.syncMakesSpec.plain.varTypes Tryz.prog).any (Tryz.prog.mapsRec ·))=true:=kr
theorem wJ:(Rows.syncMakesRow.ifaces==(Tryz.f3.params.toList++Rows.syncMakesSpec.plain.varTypes Tryz.prog).any (Tryz.prog.ifacesRec ·))=true:=kr
theorem wR:(Rows.syncMakesRow.mapsOut==Tryz.prog.mapsAmong Tryz.f3.resultTypes.toList)=true:=kr
theorem wA:(Rows.syncMakesRow.loops==(Tryz.f3.params.toList++Rows.syncMakesSpec.plain.varTypes Tryz.prog).any (Tryz.prog.loopsFrom ·))=true:=kr
theorem wN:(Rows.syncMakesRow.wideKeys==(Tryz.f3.params.toList++Rows.syncMakesSpec.plain.varTypes Tryz.prog++Tryz.f3.resultTypes.toList).any (Tryz.prog.wideKeysFrom ·))=true:=kr
theorem wQ:(Rows.syncMakesSpec.vars.all (Tryz.prog.varReadable ·))=true:=kr
theorem wH:(Tryz.f3.resultTypes.all (fun t=>Tryz.prog.readableRec t&&decide (t<Tryz.prog.types.size)))=true:=kr
theorem wG:(Rows.syncMakesRow.ifacesOut==Tryz.f3.resultTypes.toList.any (Tryz.prog.ifacesRec ·))=true:=kr
theorem wS:(Rows.syncMakesRow.loopsOut==Tryz.f3.resultTypes.toList.any (Tryz.prog.loopsFrom ·))=true:=kr
theorem xr:(Rows.syncMakesRow.plainKeys==Tryz.prog.plainKeys)=true:=kr
theorem wC:(Rows.syncMakesRow.shortTexts.isNone)=true:=kr
theorem wE:(Tryz.prog.stopsHeard)=true:=kr
theorem wI:(Tryz.prog.mayEnter)=true:=kr
theorem wP:(Rows.syncMakesRow.lifted==Tryz.prog.liftsFinal)=true:=kr
theorem wz:(Tryz.prog.make==some Rows.syncMakesRow.make)=true:=kr
theorem wK:(Rows.syncMakesRow.kinds==(if Rows.syncMakesRow.domain.isEmpty then [] else Tryz.f3.params.toList.map fun t=>match Tryz.prog.underlying t with | some (.int k)=>some k | _=>none))=true:=kr
theorem w5:(Rows.syncMakesRow.pinned==Rows.syncMakesRow.pinnedBy)=true:=kr
theorem wF:(Rows.syncMakesRow.veiled==(Tryz.f3.params.toList++Rows.syncMakesSpec.plain.varTypes Tryz.prog++Tryz.f3.resultTypes.toList).any (Tryz.prog.veiledRec ·))=true:=kr
theorem wy:(Rows.syncMakesRow.veiledFits Tryz.prog Tryz.f3.params.toList (Tryz.f3.params.toList++Rows.syncMakesSpec.plain.varTypes Tryz.prog++Tryz.f3.resultTypes.toList))=true:=kr
theorem sT:joinedFacts Tryz.prog 3 Tryz.f3 Rows.syncMakesSpec Rows.syncMakesRow=true:=
 (lB (lB (lB (lB (lB (lB (lB (lB (lB (lB (lB (lB (lB (lB (lB (lB (lB (lB (lB (lB (lB (lB (lB (lB (lB (lB (lB (lB (lB (lB (lB yU zi) zf) zj) zH) yw) yx) yY) zv) zg) w7) w6) wZ) w8) wJ) wR) wA) wN) wQ) wH) wG) wS) xr) wC) wE) wI) wP) wz) wK) w5) wF) wy)
theorem pH:Rows.SyncMakesSaid:=
 OpenClaim.holds_of_wide 3 Tryz.f3 rfl rfl rfl rfl rfl rfl rfl ⟨rfl,rfl,rfl,rfl,rfl⟩ rfl rfl rfl rfl rfl kr Tryz.func3 sT
  (of_decide_eq_true kr) (by unfold Func.isWrapper; first | (rw [if_pos (by decide +kernel)]; kernel_rfl) | (rw [if_neg (by decide +kernel)]; exact ⟨rfl,rfl⟩))
  (fun os started H enc _=>sA os started H enc)
theorem yV:Rows.syncMakesRow.wfByText (OpenSpec.ofChange Rows.syncMakesSpec)=true:=kr
theorem ym : Tryz.pinned.checked.prog.mainIs = some ((true, "f45694f1cc62f08cd2854a34bf8f78a3ddeb0c9bd712b7f6a62994e0668ffc0a").1, (true, "f45694f1cc62f08cd2854a34bf8f78a3ddeb0c9bd712b7f6a62994e0668ffc0a").2.toList) := by kernel_rfl
theorem yj : Tryz.prog.funcNamed "concourse/concourselaw21.SyncMakes" = some 3 := by kernel_rfl
theorem yr:true=Tryz.pinned.checked.prog.looks []:=kr
theorem yl:([22,22,23,3,3,3,3].all fun u=>!Tryz.prog.wantsStandIn u)=true:=kr
theorem yS:false=Rows.syncMakesRow.goesBy Tryz.pinned.checked.prog:=kr
theorem syncMakes_tied:Rows.SyncMakesCardSaid:=
 Claim7.holds_tied_plain_at .later [] [.data, .pinned] true (true, "f45694f1cc62f08cd2854a34bf8f78a3ddeb0c9bd712b7f6a62994e0668ffc0a") true pH (fun _ h => by cases h) yV (fun _ h => by cases h) syncMakes_row_tie rfl ⟨rfl, rfl⟩ ym rfl
  (fun f fn hf hfn=>by
   obtain rfl:f=3:=Option.some.inj (yj.symm.trans hf) |>.symm
   obtain rfl:fn=Tryz.f3:=(Option.some.inj (Tryz.func3.symm.trans hfn)).symm
   exact ⟨yr,fun j t ht=>by
    rw [Tryz.params3] at ht
    have hm:t∈[22,22,23,3,3,3,3]:=by simpa using Array.mem_of_getElem? ht
    exact (show Tryz.prog.wantsStandIn t=false by simpa using List.all_eq_true.1 yl t hm)⟩)
  yS
#print axioms pH
end Go.Proofs.YtfknmdelgepbjaaGreatDoor
