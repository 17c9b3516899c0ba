import Derived.Test.YtfknmdelgepbjaaGreatDoorWZLawSyncSteps
import Derived.Test.YtfknmdelgepbjaaGreatDoorWZPureSyncSteps
import Derived.Test.YtfknmdelgepbjaaGreatDoorRows
import Derived.Test.YtfknmdelgepbjaaGreatDoorTie
import Derived.Test.YtfknmdelgepbjaaGreatDoorCards
import Derived.Lay
import Derived.LaidLaws
import Derived.LaidMore
import Derived.SevenTiedAt
import Derived.MakeChecks
import Derived.Stop.Joined
set_option linter.all false
set_option maxRecDepth 10000
namespace Go.Proofs.YtfknmdelgepbjaaGreatDoor
open Go Go.Sp Go.ChangeShapes Go.WideShapes Go.ChangeAt Go.RowKit
open Go.ChangeMaps (open_string shut_string)
theorem J5 (W:World):JS Tryz.prog W 198 dA.K dA.ok:=fun H enc fuel cs y h=>by
 obtain ⟨xs,n,_,_,hlen,hxl,hf⟩:=DataW.trod_struct Tryz.underlying198 h
 obtain ⟨y0,hy0⟩:∃ y,xs[0]? = some y:=⟨xs[0]'(by rw [hxl]; decide),gE (by rw [hxl]; decide)⟩
 have h0:=(hf 0 _ rfl).trans hy0
 obtain ⟨x0,k0,cc0_⟩:=(pF Tryz.underlying3) H enc n _ _ h0
 replace cc0_:Cs.h (full W) ((bz .i64).enc x0) ((cs.drop 0).take (Tryz.prog.cellsOf 3)):=cc0_
 rw [c3] at cc0_
 obtain ⟨y1,hy1⟩:∃ y,xs[1]? = some y:=⟨xs[1]'(by rw [hxl]; decide),gE (by rw [hxl]; decide)⟩
 have h1:=(hf 1 _ rfl).trans hy1
 obtain ⟨x1,k1,cc1_⟩:=(pF Tryz.underlying3) H enc n _ _ h1
 replace cc1_:Cs.h (full W) ((bz .i64).enc x1) ((cs.drop 1).take (Tryz.prog.cellsOf 3)):=cc1_
 rw [c3] at cc1_
 obtain ⟨y2,hy2⟩:∃ y,xs[2]? = some y:=⟨xs[2]'(by rw [hxl]; decide),gE (by rw [hxl]; decide)⟩
 have h2:=(hf 2 _ rfl).trans hy2
 obtain ⟨x2,k2,cc2_⟩:=(qx Tryz.underlying38 c3 dc (pF Tryz.underlying3)) H enc n _ _ h2
 replace cc2_:Cs.h (full W) ((slK (bz .i64)).enc x2) ((cs.drop 2).take (Tryz.prog.cellsOf 38)):=cc2_
 rw [c38] at cc2_
 obtain ⟨y3,hy3⟩:∃ y,xs[3]? = some y:=⟨xs[3]'(by rw [hxl]; decide),gE (by rw [hxl]; decide)⟩
 have h3:=(hf 3 _ rfl).trans hy3
 obtain ⟨x3,k3,cc3_⟩:=(pF Tryz.underlying3) H enc n _ _ h3
 replace cc3_:Cs.h (full W) ((bz .i64).enc x3) ((cs.drop 3).take (Tryz.prog.cellsOf 3)):=cc3_
 rw [c3] at cc3_
 exact ⟨⟨x0,x1,x2,x3⟩,⟨k0,k1,k2,k3,trivial⟩,(show Cs.h (full W) ((bz .i64).enc x0++((bz .i64).enc x1++((slK (bz .i64)).enc x2++((bz .i64).enc x3++[])))) (cs.drop 0) from (Cs.at_ (s:=1) cc0_ (Cs.at_ (s:=1) cc1_ (Cs.at_ (s:=1) cc2_ (Cs.at_ (s:=1) cc3_ (Cs.end_ (Nat.le_of_eq (hlen.trans AS))))))))⟩
theorem rd52 (W:World):JS Tryz.prog W 52 ak.K ak.ok:=fun H enc fuel cs y h=>by
 obtain ⟨xs,n,_,_,hlen,hxl,hf⟩:=DataW.trod_struct Tryz.underlying52 h
 obtain ⟨y0,hy0⟩:∃ y,xs[0]? = some y:=⟨xs[0]'(by rw [hxl]; decide),gE (by rw [hxl]; decide)⟩
 have h0:=(hf 0 _ rfl).trans hy0
 obtain ⟨x0,k0,cc0_⟩:=(pF Tryz.underlying3) H enc n _ _ h0
 replace cc0_:Cs.h (full W) ((bz .i64).enc x0) ((cs.drop 0).take (Tryz.prog.cellsOf 3)):=cc0_
 rw [c3] at cc0_
 obtain ⟨y1,hy1⟩:∃ y,xs[1]? = some y:=⟨xs[1]'(by rw [hxl]; decide),gE (by rw [hxl]; decide)⟩
 have h1:=(hf 1 _ rfl).trans hy1
 obtain ⟨x1,k1,cc1_⟩:=(zG Tryz.underlying9) H enc n _ _ h1
 replace cc1_:Cs.h (full W) (aw.enc x1) ((cs.drop 1).take (Tryz.prog.cellsOf 9)):=cc1_
 rw [c9] at cc1_
 obtain ⟨y2,hy2⟩:∃ y,xs[2]? = some y:=⟨xs[2]'(by rw [hxl]; decide),gE (by rw [hxl]; decide)⟩
 have h2:=(hf 2 _ rfl).trans hy2
 obtain ⟨x2,k2,cc2_⟩:=(zG Tryz.underlying9) H enc n _ _ h2
 replace cc2_:Cs.h (full W) (aw.enc x2) ((cs.drop 2).take (Tryz.prog.cellsOf 9)):=cc2_
 rw [c9] at cc2_
 obtain ⟨y3,hy3⟩:∃ y,xs[3]? = some y:=⟨xs[3]'(by rw [hxl]; decide),gE (by rw [hxl]; decide)⟩
 have h3:=(hf 3 _ rfl).trans hy3
 obtain ⟨x3,k3,cc3_⟩:=(zG Tryz.underlying9) H enc n _ _ h3
 replace cc3_:Cs.h (full W) (aw.enc x3) ((cs.drop 3).take (Tryz.prog.cellsOf 9)):=cc3_
 rw [c9] at cc3_
 obtain ⟨y4,hy4⟩:∃ y,xs[4]? = some y:=⟨xs[4]'(by rw [hxl]; decide),gE (by rw [hxl]; decide)⟩
 have h4:=(hf 4 _ rfl).trans hy4
 obtain ⟨x4,k4,cc4_⟩:=(zG Tryz.underlying9) H enc n _ _ h4
 replace cc4_:Cs.h (full W) (aw.enc x4) ((cs.drop 4).take (Tryz.prog.cellsOf 9)):=cc4_
 rw [c9] at cc4_
 obtain ⟨y5,hy5⟩:∃ y,xs[5]? = some y:=⟨xs[5]'(by rw [hxl]; decide),gE (by rw [hxl]; decide)⟩
 have h5:=(hf 5 _ rfl).trans hy5
 obtain ⟨x5,k5,cc5_⟩:=(ze Tryz.underlying4) H enc n _ _ h5
 replace cc5_:Cs.h (full W) (bJ.enc x5) ((cs.drop 5).take (Tryz.prog.cellsOf 4)):=cc5_
 rw [c4] at cc5_
 obtain ⟨y6,hy6⟩:∃ y,xs[6]? = some y:=⟨xs[6]'(by rw [hxl]; decide),gE (by rw [hxl]; decide)⟩
 have h6:=(hf 6 _ rfl).trans hy6
 obtain ⟨x6,k6,cc6_⟩:=(ze Tryz.underlying4) H enc n _ _ h6
 replace cc6_:Cs.h (full W) (bJ.enc x6) ((cs.drop 6).take (Tryz.prog.cellsOf 4)):=cc6_
 rw [c4] at cc6_
 obtain ⟨y7,hy7⟩:∃ y,xs[7]? = some y:=⟨xs[7]'(by rw [hxl]; decide),gE (by rw [hxl]; decide)⟩
 have h7:=(hf 7 _ rfl).trans hy7
 obtain ⟨x7,k7,cc7_⟩:=(pF Tryz.underlying3) H enc n _ _ h7
 replace cc7_:Cs.h (full W) ((bz .i64).enc x7) ((cs.drop 7).take (Tryz.prog.cellsOf 3)):=cc7_
 rw [c3] at cc7_
 obtain ⟨y8,hy8⟩:∃ y,xs[8]? = some y:=⟨xs[8]'(by rw [hxl]; decide),gE (by rw [hxl]; decide)⟩
 have h8:=(hf 8 _ rfl).trans hy8
 obtain ⟨x8,k8,cc8_⟩:=(pF Tryz.underlying3) H enc n _ _ h8
 replace cc8_:Cs.h (full W) ((bz .i64).enc x8) ((cs.drop 8).take (Tryz.prog.cellsOf 3)):=cc8_
 rw [c3] at cc8_
 obtain ⟨y9,hy9⟩:∃ y,xs[9]? = some y:=⟨xs[9]'(by rw [hxl]; decide),gE (by rw [hxl]; decide)⟩
 have h9:=(hf 9 _ rfl).trans hy9
 obtain ⟨x9,k9,cc9_⟩:=(pF Tryz.underlying3) H enc n _ _ h9
 replace cc9_:Cs.h (full W) ((bz .i64).enc x9) ((cs.drop 9).take (Tryz.prog.cellsOf 3)):=cc9_
 rw [c3] at cc9_
 obtain ⟨y10,hy10⟩:∃ y,xs[10]? = some y:=⟨xs[10]'(by rw [hxl]; decide),gE (by rw [hxl]; decide)⟩
 have h10:=(hf 10 _ rfl).trans hy10
 obtain ⟨x10,k10,cc10_⟩:=(pF Tryz.underlying3) H enc n _ _ h10
 replace cc10_:Cs.h (full W) ((bz .i64).enc x10) ((cs.drop 10).take (Tryz.prog.cellsOf 3)):=cc10_
 rw [c3] at cc10_
 exact ⟨⟨x0,x1,x2,x3,x4,x5,x6,x7,x8,x9,x10⟩,⟨k0,k1,k2,k3,k4,k5,k6,k7,k8,k9,k10,trivial⟩,(show Cs.h (full W) ((bz .i64).enc x0++(aw.enc x1++(aw.enc x2++(aw.enc x3++(aw.enc x4++(bJ.enc x5++(bJ.enc x6++((bz .i64).enc x7++((bz .i64).enc x8++((bz .i64).enc x9++((bz .i64).enc x10++[]))))))))))) (cs.drop 0) from (Cs.at_ (s:=1) cc0_ (Cs.at_ (s:=1) cc1_ (Cs.at_ (s:=1) cc2_ (Cs.at_ (s:=1) cc3_ (Cs.at_ (s:=1) cc4_ (Cs.at_ (s:=1) cc5_ (Cs.at_ (s:=1) cc6_ (Cs.at_ (s:=1) cc7_ (Cs.at_ (s:=1) cc8_ (Cs.at_ (s:=1) cc9_ (Cs.at_ (s:=1) cc10_ (Cs.end_ (Nat.le_of_eq (hlen.trans iy)))))))))))))))⟩
def hJ : List (String × DataW Unit) := [("unicode/utf8.acceptRanges", Rows.laid_unicode_utf8_acceptRanges), ("unicode/utf8.first", Rows.laid_unicode_utf8_first)]
theorem wP (os:Os) (args:Array Value):laidMetH Tryz.prog hJ ((World.laidAll Tryz.prog os hJ).forCall (fun _ _=>0) ⟨#[],args,[]⟩).memory:=by
 rw [MakeChecks.laidMetH_plain _ _ _ kr]
 exact laidMet_laidAll _ kr kr
theorem w7:ownKnob Tryz.prog.godebug=none:=kr
theorem jl:laidOutB Tryz.prog=true:=kr
set_option maxRecDepth 100000 in
theorem tB (os:Os) (started:os.Started) (H:Type) (enc:TypeId×Value→H):
  ReturnsInHanded {} Tryz.checked os 4 .any (fun w args=>(Rows.syncStepsSpec.pre enc Tryz.prog Tryz.f4 Rows.syncStepsRow.domain false w args∧laidMetH Tryz.prog hJ w)∧sizedMet enc Tryz.prog Tryz.f4 (OpenSpec.ofChange Rows.syncStepsSpec) false w args) (Rows.syncStepsSpec.post enc Tryz.prog Tryz.f4 false true false false):=by
 refine returnsInHanded_of_change_and (C:=Tryz.checked) (X:=fun w _=>laidMetH Tryz.prog hJ w) (fun _ _ _ hh h=>h.of_heap hh) w7 started kr Tryz.func4
  (ChangeSpec.witness_shaped (enc:=enc) (C:=Tryz.checked) (os:=os) (X:=fun w _=>laidMetH Tryz.prog hJ w) false (World.laidAll Tryz.prog os hJ) #[.slice none 0 0,.slice none 0 0,.slice none 0 0,.slice none 0 0,.int .i64 0,.int .i64 0] 8 (World.laidAll_os _ _ _) (World.shaped_of_ZipB kr kr) kr kr kr (wP os _)) ?_
 intro W base args ds gs before hval0 hW hcnd hsz0 hL _
 have hval:∀ (j:Nat) t v,Tryz.f4.params[j]? = some t→args[j]? = some v→Value.okWide Tryz.prog W .any base t v:=hval0
 have hW':=hW
 obtain ⟨p,q,hA0,hV,rfl,hfz,hnd⟩:=hW
 have hA:DataW.TrodAll enc Tryz.prog W 0 (fun _=>true) true Tryz.f4.params.toList args.toList ds p:=hA0
 rw [Tryz.params4] at hA hval
 obtain ⟨v0,vs0,d0,ds0,p0,q0,hargs,rfl,rfl,h0,r0⟩:=trodAll_cons hA
 obtain ⟨v1,vs1,d1,ds1,p1,q1,rfl,rfl,rfl,h1,r1⟩:=trodAll_cons r0
 obtain ⟨v2,vs2,d2,ds2,p2,q2,rfl,rfl,rfl,h2,r2⟩:=trodAll_cons r1
 obtain ⟨v3,vs3,d3,ds3,p3,q3,rfl,rfl,rfl,h3,r3⟩:=trodAll_cons r2
 obtain ⟨v4,vs4,d4,ds4,p4,q4,rfl,rfl,rfl,h4,r4⟩:=trodAll_cons r3
 obtain ⟨v5,vs5,d5,ds5,p5,q5,rfl,rfl,rfl,h5,r5⟩:=trodAll_cons r4
 obtain ⟨rfl,rfl,rfl⟩:=trodAll_nil r5
 obtain rfl:args = #[v0,v1,v2,v3,v4,v5]:=by cases args; simp_all
 obtain ⟨rfl,rfl⟩:=trodVars_none hV
 have z0:=h0
 have lt0:∀ x∈p0,x.block<W.heap.size:=by obtain ⟨m,hm⟩:=z0; exact DataW.trod_lt m _ _ _ hm
 obtain ⟨a0,k0,c0⟩:=uy (qx Tryz.underlying22 AS dc (J5 _)) h0
 obtain ⟨ad0,ln0,cp0,rfl⟩:=okWide_slice Tryz.underlying22 (hval 0 22 v0 rfl rfl)
 have z1:=h1
 have lt1:∀ x∈p1,x.block<W.heap.size:=by obtain ⟨m,hm⟩:=z1; exact DataW.trod_lt m _ _ _ hm
 obtain ⟨a1,k1,c1⟩:=uy (qx Tryz.underlying22 AS dc (J5 _)) h1
 obtain ⟨ad1,ln1,cp1,rfl⟩:=okWide_slice Tryz.underlying22 (hval 1 22 v1 rfl rfl)
 have z2:=h2
 have lt2:∀ x∈p2,x.block<W.heap.size:=by obtain ⟨m,hm⟩:=z2; exact DataW.trod_lt m _ _ _ hm
 obtain ⟨a2,k2,c2⟩:=uy (qx Tryz.underlying23 iy dc (rd52 _)) h2
 obtain ⟨ad2,ln2,cp2,rfl⟩:=okWide_slice Tryz.underlying23 (hval 2 23 v2 rfl rfl)
 have z3:=h3
 have lt3:∀ x∈p3,x.block<W.heap.size:=by obtain ⟨m,hm⟩:=z3; exact DataW.trod_lt m _ _ _ hm
 obtain ⟨a3,k3,c3⟩:=uy (qx Tryz.underlying35 c4 dc (ze Tryz.underlying4)) h3
 obtain ⟨ad3,ln3,cp3,rfl⟩:=okWide_slice Tryz.underlying35 (hval 3 35 v3 rfl rfl)
 have z4:=h4
 have lt4:∀ x∈p4,x.block<W.heap.size:=by obtain ⟨m,hm⟩:=z4; exact DataW.trod_lt m _ _ _ hm
 obtain ⟨a4,rfl,e4,rfl,k4⟩:=open_int Tryz.underlying3 (hval 4 3 v4 rfl rfl) h4
 have z5:=h5
 have lt5:∀ x∈p5,x.block<W.heap.size:=by obtain ⟨m,hm⟩:=z5; exact DataW.trod_lt m _ _ _ hm
 obtain ⟨a5,rfl,e5,rfl,k5⟩:=open_int Tryz.underlying3 (hval 5 3 v5 rfl rfl) h5
 obtain ⟨k,hk⟩:=u9 a0 a1 a2 a3 a4 a5 k0 k1 k2 k3 k4 k5
 refine (Eh (bN (vP (fun _=>(bN gY (bN gY (bN (vP (fun _=>(bN gY lS))) (bN gY lS)))))) (bN (vP (fun _=>(bN gY (bN gY (bN (vP (fun _=>(bN gY lS))) (bN gY lS)))))) (bN (vP (fun _=>(bN gY (bN gY (bN gY (bN gY (bN gY (bN gY (bN gY (bN gY (bN gY (bN gY (bN gY lS))))))))))))) (bN (vP (fun _=>(bN gY lS))) (bN gY (bN gY lS)))))) (aF.c hk) (us:=[_,_,_,_,_,_]) (.cons (uu rfl c0) (.cons (uu rfl c1) (.cons (uu rfl c2) (.cons (uu rfl c3) (.cons rfl (.cons rfl .nil))))))).mono fun e W' ⟨he,bel⟩=>?_
 subst he
 exact ⟨_,rfl,_,_,_,[],_,[],hW',trodAll_mk1 (shut_bool Tryz.underlying4 _),(trodAll_cons_mk (Below.trod jl kr (of_decide_eq_true kr) z0 bel lt0) (trodAll_cons_mk (Below.trod jl kr (of_decide_eq_true kr) z1 bel lt1) (trodAll_cons_mk (Below.trod jl kr (of_decide_eq_true kr) z2 bel lt2) (trodAll_cons_mk (Below.trod jl kr (of_decide_eq_true kr) z3 bel lt3) (trodAll_cons_mk (Below.trod jl kr (of_decide_eq_true kr) z4 bel lt4) (trodAll_cons_mk (Below.trod jl kr (of_decide_eq_true kr) z5 bel lt5) trodAll_mk0)))))),rfl,bel.frame _,fun h=>by cases h⟩
theorem ly {a b:Bool} (h:a=true) (k:b=true):(a&&b)=true:=by rw [h,k]; rfl
theorem zm:(Rows.syncStepsRow.wf (OpenSpec.ofChange Rows.syncStepsSpec))=true:=kr
theorem zt:(laidOutB Tryz.prog)=true:=kr
theorem yJ:(mapsRowed Tryz.prog)=true:=kr
theorem zF:(Tryz.f4.params.all (Tryz.prog.readableRec ·))=true:=kr
theorem zC:(namedTie Tryz.prog Rows.syncStepsRow.named Rows.syncStepsSpec.vars)=true:=kr
theorem zr:(Rows.syncStepsRow.stops==[])=true:=kr
theorem yy:(Tryz.prog.stops==[])=true:=kr
theorem yI:(Rows.syncStepsRow.knobs==[])=true:=kr
theorem yU:(Tryz.prog.stopKnobs==[])=true:=kr
theorem yS:(Rows.syncStepsRow.inPlace==Tryz.prog.inPlace 4)=true:=kr
theorem xu:(Rows.syncStepsRow.unfollowed==Tryz.prog.unfollowed 4)=true:=kr
theorem w6:(Rows.syncStepsRow.recurses==Tryz.prog.recurses 4)=true:=kr
theorem wX:(Rows.syncStepsRow.named==Tryz.prog.varsNamed 4)=true:=kr
theorem xH:(Rows.syncStepsRow.maps==(Tryz.f4.params.toList++Rows.syncStepsSpec.plain.varTypes Tryz.prog).any (Tryz.prog.mapsRec ·))=true:=kr
theorem xB:(Rows.syncStepsRow.ifaces==(Tryz.f4.params.toList++Rows.syncStepsSpec.plain.varTypes Tryz.prog).any (Tryz.prog.ifacesRec ·))=true:=kr
theorem xI:(Rows.syncStepsRow.mapsOut==Tryz.prog.mapsAmong Tryz.f4.resultTypes.toList)=true:=kr
theorem wO:(Rows.syncStepsRow.loops==(Tryz.f4.params.toList++Rows.syncStepsSpec.plain.varTypes Tryz.prog).any (Tryz.prog.loopsFrom ·))=true:=kr
theorem w9:(Rows.syncStepsRow.wideKeys==(Tryz.f4.params.toList++Rows.syncStepsSpec.plain.varTypes Tryz.prog++Tryz.f4.resultTypes.toList).any (Tryz.prog.wideKeysFrom ·))=true:=kr
theorem wW:(Rows.syncStepsSpec.vars.all (Tryz.prog.varReadable ·))=true:=kr
theorem xy:(Tryz.f4.resultTypes.all (fun t=>Tryz.prog.readableRec t&&decide (t<Tryz.prog.types.size)))=true:=kr
theorem wU:(Rows.syncStepsRow.ifacesOut==Tryz.f4.resultTypes.toList.any (Tryz.prog.ifacesRec ·))=true:=kr
theorem w5:(Rows.syncStepsRow.loopsOut==Tryz.f4.resultTypes.toList.any (Tryz.prog.loopsFrom ·))=true:=kr
theorem wY:(Rows.syncStepsRow.plainKeys==Tryz.prog.plainKeys)=true:=kr
theorem xF:(Rows.syncStepsRow.shortTexts.isNone)=true:=kr
theorem wM:(Tryz.prog.stopsHeard)=true:=kr
theorem wZ:(Tryz.prog.mayEnter)=true:=kr
theorem wR:(Rows.syncStepsRow.lifted==Tryz.prog.liftsFinal)=true:=kr
theorem xt:(Tryz.prog.make==some Rows.syncStepsRow.make)=true:=kr
theorem wQ:(Rows.syncStepsRow.kinds==(if Rows.syncStepsRow.domain.isEmpty then [] else Tryz.f4.params.toList.map fun t=>match Tryz.prog.underlying t with | some (.int k)=>some k | _=>none))=true:=kr
theorem wL:(Rows.syncStepsRow.pinned==Rows.syncStepsRow.pinnedBy)=true:=kr
theorem xA:(Rows.syncStepsRow.veiled==(Tryz.f4.params.toList++Rows.syncStepsSpec.plain.varTypes Tryz.prog++Tryz.f4.resultTypes.toList).any (Tryz.prog.veiledRec ·))=true:=kr
theorem wN:(Rows.syncStepsRow.veiledFits Tryz.prog Tryz.f4.params.toList (Tryz.f4.params.toList++Rows.syncStepsSpec.plain.varTypes Tryz.prog++Tryz.f4.resultTypes.toList))=true:=kr
theorem sO:joinedFacts Tryz.prog 4 Tryz.f4 Rows.syncStepsSpec Rows.syncStepsRow=true:=
 (ly (ly (ly (ly (ly (ly (ly (ly (ly (ly (ly (ly (ly (ly (ly (ly (ly (ly (ly (ly (ly (ly (ly (ly (ly (ly (ly (ly (ly (ly (ly zm zt) yJ) zF) zC) zr) yy) yI) yU) yS) xu) w6) wX) xH) xB) xI) wO) w9) wW) xy) wU) w5) wY) xF) wM) wZ) wR) xt) wQ) wL) xA) wN)
theorem pQ:Rows.SyncStepsSaid:=
 OpenClaim.holds_of_wide 4 Tryz.f4 rfl rfl rfl rfl rfl rfl rfl ⟨rfl,rfl,rfl,rfl,rfl⟩ rfl rfl rfl rfl rfl kr Tryz.func4 sO
  (of_decide_eq_true kr) (by unfold Func.isWrapper; first | (rw [if_pos (by decide +kernel)]; kernel_rfl) | (rw [if_neg (by decide +kernel)]; exact ⟨rfl,rfl⟩))
  (fun os started H enc _=>tB os started H enc)
theorem zR:Rows.syncStepsRow.wfByText (OpenSpec.ofChange Rows.syncStepsSpec)=true:=kr
theorem yO : Tryz.pinned.checked.prog.mainIs = some ((true, "f45694f1cc62f08cd2854a34bf8f78a3ddeb0c9bd712b7f6a62994e0668ffc0a").1, (true, "f45694f1cc62f08cd2854a34bf8f78a3ddeb0c9bd712b7f6a62994e0668ffc0a").2.toList) := by kernel_rfl
theorem zk : Tryz.prog.funcNamed "concourse/concourselaw21.SyncSteps" = some 4 := by kernel_rfl
theorem zv:true=Tryz.pinned.checked.prog.looks []:=kr
theorem zU:([22,22,23,35,3,3].all fun u=>!Tryz.prog.wantsStandIn u)=true:=kr
theorem zp:false=Rows.syncStepsRow.goesBy Tryz.pinned.checked.prog:=kr
theorem syncSteps_tied:Rows.SyncStepsCardSaid:=
 Claim7.holds_tied_plain_at .later [] [.data, .pinned] true (true, "f45694f1cc62f08cd2854a34bf8f78a3ddeb0c9bd712b7f6a62994e0668ffc0a") true pQ (fun _ h => by cases h) zR (fun _ h => by cases h) syncSteps_row_tie rfl ⟨rfl, rfl⟩ yO rfl
  (fun f fn hf hfn=>by
   obtain rfl:f=4:=Option.some.inj (zk.symm.trans hf) |>.symm
   obtain rfl:fn=Tryz.f4:=(Option.some.inj (Tryz.func4.symm.trans hfn)).symm
   exact ⟨zv,fun j t ht=>by
    rw [Tryz.params4] at ht
    have hm:t∈[22,22,23,35,3,3]:=by simpa using Array.mem_of_getElem? ht
    exact (show Tryz.prog.wantsStandIn t=false by simpa using List.all_eq_true.1 zU t hm)⟩)
  zp
#print axioms pQ
end Go.Proofs.YtfknmdelgepbjaaGreatDoor
