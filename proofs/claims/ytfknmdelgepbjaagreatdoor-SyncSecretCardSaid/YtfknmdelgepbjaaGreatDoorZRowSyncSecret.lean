import Derived.Test.YtfknmdelgepbjaaGreatDoorZLawSyncSecret
import Derived.Test.YtfknmdelgepbjaaGreatDoorZPureSyncSecret
import Derived.Test.YtfknmdelgepbjaaGreatDoorRows
import Derived.Test.YtfknmdelgepbjaaGreatDoorConR
import Derived.Test.YtfknmdelgepbjaaGreatDoorConC4
import Derived.Test.YtfknmdelgepbjaaGreatDoorTie
import Derived.Test.YtfknmdelgepbjaaGreatDoorCards
import Derived.Lay
import Derived.LaidLaws
import Derived.LaidMore
import Derived.SevenTiedAt
import Derived.MakeChecks
import Derived.Stop.Joined
set_option linter.all false
set_option maxRecDepth 10000
namespace Go.Proofs.YtfknmdelgepbjaaGreatDoor
open Go Go.Sp Go.ChangeShapes Go.WideShapes Go.ChangeAt Go.RowKit
open Go.ChangeMaps (open_string shut_string)
theorem Ja (W:World):I4 Tryz.prog W 198 dw.K dw.ok:=fun H enc fuel cs y h=>by
 obtain ⟨xs,n,_,_,hlen,hxl,hf⟩:=DataW.trod_struct Tryz.underlying198 h
 obtain ⟨y0,hy0⟩:∃ y,xs[0]? = some y:=⟨xs[0]'(by rw [hxl]; decide),gE (by rw [hxl]; decide)⟩
 have h0:=(hf 0 _ rfl).trans hy0
 obtain ⟨x0,k0,cc0_⟩:=(oQ Tryz.underlying3) H enc n _ _ h0
 replace cc0_:Cs.h (full W) ((bG .i64).enc x0) ((cs.drop 0).take (Tryz.prog.cellsOf 3)):=cc0_
 rw [c3] at cc0_
 obtain ⟨y1,hy1⟩:∃ y,xs[1]? = some y:=⟨xs[1]'(by rw [hxl]; decide),gE (by rw [hxl]; decide)⟩
 have h1:=(hf 1 _ rfl).trans hy1
 obtain ⟨x1,k1,cc1_⟩:=(oQ Tryz.underlying3) H enc n _ _ h1
 replace cc1_:Cs.h (full W) ((bG .i64).enc x1) ((cs.drop 1).take (Tryz.prog.cellsOf 3)):=cc1_
 rw [c3] at cc1_
 obtain ⟨y2,hy2⟩:∃ y,xs[2]? = some y:=⟨xs[2]'(by rw [hxl]; decide),gE (by rw [hxl]; decide)⟩
 have h2:=(hf 2 _ rfl).trans hy2
 obtain ⟨x2,k2,cc2_⟩:=(rK Tryz.underlying38 c3 dc (oQ Tryz.underlying3)) H enc n _ _ h2
 replace cc2_:Cs.h (full W) ((slK (bG .i64)).enc x2) ((cs.drop 2).take (Tryz.prog.cellsOf 38)):=cc2_
 rw [c38] at cc2_
 obtain ⟨y3,hy3⟩:∃ y,xs[3]? = some y:=⟨xs[3]'(by rw [hxl]; decide),gE (by rw [hxl]; decide)⟩
 have h3:=(hf 3 _ rfl).trans hy3
 obtain ⟨x3,k3,cc3_⟩:=(oQ Tryz.underlying3) H enc n _ _ h3
 replace cc3_:Cs.h (full W) ((bG .i64).enc x3) ((cs.drop 3).take (Tryz.prog.cellsOf 3)):=cc3_
 rw [c3] at cc3_
 exact ⟨⟨x0,x1,x2,x3⟩,⟨k0,k1,k2,k3,trivial⟩,(show Cs.h (full W) ((bG .i64).enc x0++((bG .i64).enc x1++((slK (bG .i64)).enc x2++((bG .i64).enc x3++[])))) (cs.drop 0) from (Cs.at_ (s:=1) cc0_ (Cs.at_ (s:=1) cc1_ (Cs.at_ (s:=1) cc2_ (Cs.at_ (s:=1) cc3_ (Cs.end_ (Nat.le_of_eq (hlen.trans zu))))))))⟩
theorem rd52 (W:World):I4 Tryz.prog W 52 ak.K ak.ok:=fun H enc fuel cs y h=>by
 obtain ⟨xs,n,_,_,hlen,hxl,hf⟩:=DataW.trod_struct Tryz.underlying52 h
 obtain ⟨y0,hy0⟩:∃ y,xs[0]? = some y:=⟨xs[0]'(by rw [hxl]; decide),gE (by rw [hxl]; decide)⟩
 have h0:=(hf 0 _ rfl).trans hy0
 obtain ⟨x0,k0,cc0_⟩:=(oQ Tryz.underlying3) H enc n _ _ h0
 replace cc0_:Cs.h (full W) ((bG .i64).enc x0) ((cs.drop 0).take (Tryz.prog.cellsOf 3)):=cc0_
 rw [c3] at cc0_
 obtain ⟨y1,hy1⟩:∃ y,xs[1]? = some y:=⟨xs[1]'(by rw [hxl]; decide),gE (by rw [hxl]; decide)⟩
 have h1:=(hf 1 _ rfl).trans hy1
 obtain ⟨x1,k1,cc1_⟩:=(yx Tryz.underlying9) H enc n _ _ h1
 replace cc1_:Cs.h (full W) (aH.enc x1) ((cs.drop 1).take (Tryz.prog.cellsOf 9)):=cc1_
 rw [c9] at cc1_
 obtain ⟨y2,hy2⟩:∃ y,xs[2]? = some y:=⟨xs[2]'(by rw [hxl]; decide),gE (by rw [hxl]; decide)⟩
 have h2:=(hf 2 _ rfl).trans hy2
 obtain ⟨x2,k2,cc2_⟩:=(yx Tryz.underlying9) H enc n _ _ h2
 replace cc2_:Cs.h (full W) (aH.enc x2) ((cs.drop 2).take (Tryz.prog.cellsOf 9)):=cc2_
 rw [c9] at cc2_
 obtain ⟨y3,hy3⟩:∃ y,xs[3]? = some y:=⟨xs[3]'(by rw [hxl]; decide),gE (by rw [hxl]; decide)⟩
 have h3:=(hf 3 _ rfl).trans hy3
 obtain ⟨x3,k3,cc3_⟩:=(yx Tryz.underlying9) H enc n _ _ h3
 replace cc3_:Cs.h (full W) (aH.enc x3) ((cs.drop 3).take (Tryz.prog.cellsOf 9)):=cc3_
 rw [c9] at cc3_
 obtain ⟨y4,hy4⟩:∃ y,xs[4]? = some y:=⟨xs[4]'(by rw [hxl]; decide),gE (by rw [hxl]; decide)⟩
 have h4:=(hf 4 _ rfl).trans hy4
 obtain ⟨x4,k4,cc4_⟩:=(yx Tryz.underlying9) H enc n _ _ h4
 replace cc4_:Cs.h (full W) (aH.enc x4) ((cs.drop 4).take (Tryz.prog.cellsOf 9)):=cc4_
 rw [c9] at cc4_
 obtain ⟨y5,hy5⟩:∃ y,xs[5]? = some y:=⟨xs[5]'(by rw [hxl]; decide),gE (by rw [hxl]; decide)⟩
 have h5:=(hf 5 _ rfl).trans hy5
 obtain ⟨x5,k5,cc5_⟩:=(B4 Tryz.underlying4) H enc n _ _ h5
 replace cc5_:Cs.h (full W) (dj.enc x5) ((cs.drop 5).take (Tryz.prog.cellsOf 4)):=cc5_
 rw [c4] at cc5_
 obtain ⟨y6,hy6⟩:∃ y,xs[6]? = some y:=⟨xs[6]'(by rw [hxl]; decide),gE (by rw [hxl]; decide)⟩
 have h6:=(hf 6 _ rfl).trans hy6
 obtain ⟨x6,k6,cc6_⟩:=(B4 Tryz.underlying4) H enc n _ _ h6
 replace cc6_:Cs.h (full W) (dj.enc x6) ((cs.drop 6).take (Tryz.prog.cellsOf 4)):=cc6_
 rw [c4] at cc6_
 obtain ⟨y7,hy7⟩:∃ y,xs[7]? = some y:=⟨xs[7]'(by rw [hxl]; decide),gE (by rw [hxl]; decide)⟩
 have h7:=(hf 7 _ rfl).trans hy7
 obtain ⟨x7,k7,cc7_⟩:=(oQ Tryz.underlying3) H enc n _ _ h7
 replace cc7_:Cs.h (full W) ((bG .i64).enc x7) ((cs.drop 7).take (Tryz.prog.cellsOf 3)):=cc7_
 rw [c3] at cc7_
 obtain ⟨y8,hy8⟩:∃ y,xs[8]? = some y:=⟨xs[8]'(by rw [hxl]; decide),gE (by rw [hxl]; decide)⟩
 have h8:=(hf 8 _ rfl).trans hy8
 obtain ⟨x8,k8,cc8_⟩:=(oQ Tryz.underlying3) H enc n _ _ h8
 replace cc8_:Cs.h (full W) ((bG .i64).enc x8) ((cs.drop 8).take (Tryz.prog.cellsOf 3)):=cc8_
 rw [c3] at cc8_
 obtain ⟨y9,hy9⟩:∃ y,xs[9]? = some y:=⟨xs[9]'(by rw [hxl]; decide),gE (by rw [hxl]; decide)⟩
 have h9:=(hf 9 _ rfl).trans hy9
 obtain ⟨x9,k9,cc9_⟩:=(oQ Tryz.underlying3) H enc n _ _ h9
 replace cc9_:Cs.h (full W) ((bG .i64).enc x9) ((cs.drop 9).take (Tryz.prog.cellsOf 3)):=cc9_
 rw [c3] at cc9_
 obtain ⟨y10,hy10⟩:∃ y,xs[10]? = some y:=⟨xs[10]'(by rw [hxl]; decide),gE (by rw [hxl]; decide)⟩
 have h10:=(hf 10 _ rfl).trans hy10
 obtain ⟨x10,k10,cc10_⟩:=(oQ Tryz.underlying3) H enc n _ _ h10
 replace cc10_:Cs.h (full W) ((bG .i64).enc x10) ((cs.drop 10).take (Tryz.prog.cellsOf 3)):=cc10_
 rw [c3] at cc10_
 exact ⟨⟨x0,x1,x2,x3,x4,x5,x6,x7,x8,x9,x10⟩,⟨k0,k1,k2,k3,k4,k5,k6,k7,k8,k9,k10,trivial⟩,(show Cs.h (full W) ((bG .i64).enc x0++(aH.enc x1++(aH.enc x2++(aH.enc x3++(aH.enc x4++(dj.enc x5++(dj.enc x6++((bG .i64).enc x7++((bG .i64).enc x8++((bG .i64).enc x9++((bG .i64).enc x10++[]))))))))))) (cs.drop 0) from (Cs.at_ (s:=1) cc0_ (Cs.at_ (s:=1) cc1_ (Cs.at_ (s:=1) cc2_ (Cs.at_ (s:=1) cc3_ (Cs.at_ (s:=1) cc4_ (Cs.at_ (s:=1) cc5_ (Cs.at_ (s:=1) cc6_ (Cs.at_ (s:=1) cc7_ (Cs.at_ (s:=1) cc8_ (Cs.at_ (s:=1) cc9_ (Cs.at_ (s:=1) cc10_ (Cs.end_ (Nat.le_of_eq (hlen.trans iT)))))))))))))))⟩
def fR : List (String × DataW Unit) := [("unicode/utf8.acceptRanges", Rows.laid_unicode_utf8_acceptRanges), ("unicode/utf8.first", Rows.laid_unicode_utf8_first)]
theorem wm (os:Os) (args:Array Value):laidMetH Tryz.prog fR ((World.laidAll Tryz.prog os fR).forCall (fun _ _=>0) ⟨#[],args,[]⟩).memory:=by
 rw [MakeChecks.laidMetH_plain _ _ _ kr]
 exact laidMet_laidAll _ kr kr
theorem vP:ownKnob Tryz.prog.godebug=none:=kr
theorem jz:laidOutB Tryz.prog=true:=kr
set_option maxRecDepth 100000 in
theorem rm (os:Os) (started:os.Started) (H:Type) (enc:TypeId×Value→H):
  ReturnsInHanded {} Tryz.checked os 6 .any (fun w args=>(Rows.syncSecretSpec.pre enc Tryz.prog Tryz.f6 Rows.syncSecretRow.domain false w args∧laidMetH Tryz.prog fR w)∧sizedMet enc Tryz.prog Tryz.f6 (OpenSpec.ofChange Rows.syncSecretSpec) false w args) (Rows.syncSecretSpec.post enc Tryz.prog Tryz.f6 false true false false):=by
 refine returnsInHanded_of_change_and (C:=Tryz.checked) (X:=fun w _=>laidMetH Tryz.prog fR w) (fun _ _ _ hh h=>h.of_heap hh) vP started kr Tryz.func6
  (ChangeSpec.witness_shaped (enc:=enc) (C:=Tryz.checked) (os:=os) (X:=fun w _=>laidMetH Tryz.prog fR w) false (World.laidAll Tryz.prog os fR) #[.slice none 0 0,.slice none 0 0,.slice none 0 0,.int .i64 0,.int .i64 0] 8 (World.laidAll_os _ _ _) (World.shaped_of_ZipB kr kr) kr kr kr (wm os _)) ?_
 intro W base args ds gs before hval0 hW hcnd hsz0 hL _
 have hval:∀ (j:Nat) t v,Tryz.f6.params[j]? = some t→args[j]? = some v→Value.okWide Tryz.prog W .any base t v:=hval0
 have hW':=hW
 obtain ⟨p,q,hA0,hV,rfl,hfz,hnd⟩:=hW
 have hA:DataW.TrodAll enc Tryz.prog W 0 (fun _=>true) true Tryz.f6.params.toList args.toList ds p:=hA0
 rw [Tryz.params6] at hA hval
 obtain ⟨v0,vs0,d0,ds0,p0,q0,hargs,rfl,rfl,h0,r0⟩:=trodAll_cons hA
 obtain ⟨v1,vs1,d1,ds1,p1,q1,rfl,rfl,rfl,h1,r1⟩:=trodAll_cons r0
 obtain ⟨v2,vs2,d2,ds2,p2,q2,rfl,rfl,rfl,h2,r2⟩:=trodAll_cons r1
 obtain ⟨v3,vs3,d3,ds3,p3,q3,rfl,rfl,rfl,h3,r3⟩:=trodAll_cons r2
 obtain ⟨v4,vs4,d4,ds4,p4,q4,rfl,rfl,rfl,h4,r4⟩:=trodAll_cons r3
 obtain ⟨rfl,rfl,rfl⟩:=trodAll_nil r4
 obtain rfl:args = #[v0,v1,v2,v3,v4]:=by cases args; simp_all
 obtain ⟨rfl,rfl⟩:=trodVars_none hV
 have z0:=h0
 have lt0:∀ x∈p0,x.block<W.heap.size:=by obtain ⟨m,hm⟩:=z0; exact DataW.trod_lt m _ _ _ hm
 obtain ⟨a0,k0,c0⟩:=yQ (rK Tryz.underlying22 zu dc (Ja _)) h0
 obtain ⟨ad0,ln0,cp0,rfl⟩:=okWide_slice Tryz.underlying22 (hval 0 22 v0 rfl rfl)
 have z1:=h1
 have lt1:∀ x∈p1,x.block<W.heap.size:=by obtain ⟨m,hm⟩:=z1; exact DataW.trod_lt m _ _ _ hm
 obtain ⟨a1,k1,c1⟩:=yQ (rK Tryz.underlying22 zu dc (Ja _)) h1
 obtain ⟨ad1,ln1,cp1,rfl⟩:=okWide_slice Tryz.underlying22 (hval 1 22 v1 rfl rfl)
 have z2:=h2
 have lt2:∀ x∈p2,x.block<W.heap.size:=by obtain ⟨m,hm⟩:=z2; exact DataW.trod_lt m _ _ _ hm
 obtain ⟨a2,k2,c2⟩:=yQ (rK Tryz.underlying23 iT dc (rd52 _)) h2
 obtain ⟨ad2,ln2,cp2,rfl⟩:=okWide_slice Tryz.underlying23 (hval 2 23 v2 rfl rfl)
 have z3:=h3
 have lt3:∀ x∈p3,x.block<W.heap.size:=by obtain ⟨m,hm⟩:=z3; exact DataW.trod_lt m _ _ _ hm
 obtain ⟨a3,rfl,e3,rfl,k3⟩:=open_int Tryz.underlying3 (hval 3 3 v3 rfl rfl) h3
 have z4:=h4
 have lt4:∀ x∈p4,x.block<W.heap.size:=by obtain ⟨m,hm⟩:=z4; exact DataW.trod_lt m _ _ _ hm
 obtain ⟨a4,rfl,e4,rfl,k4⟩:=open_int Tryz.underlying3 (hval 4 3 v4 rfl rfl) h4
 obtain ⟨k,hk⟩:=tJ a0 a1 a2 a3 a4 k0 k1 k2 k3 k4
 refine (DN (bO (xu (fun _=>(bO gV (bO gV (bO (xu (fun _=>(bO gV mb))) (bO gV mb)))))) (bO (xu (fun _=>(bO gV (bO gV (bO (xu (fun _=>(bO gV mb))) (bO gV mb)))))) (bO (xu (fun _=>(bO gV (bO gV (bO gV (bO gV (bO gV (bO gV (bO gV (bO gV (bO gV (bO gV (bO gV mb))))))))))))) (bO gV (bO gV mb))))) (bP.c hk) (us:=[_,_,_,_,_]) (.cons (xU rfl c0) (.cons (xU rfl c1) (.cons (xU rfl c2) (.cons rfl (.cons rfl .nil)))))).mono fun e W' ⟨he,bel⟩=>?_
 subst he
 exact ⟨_,rfl,_,_,_,[],_,[],hW',trodAll_mk1 (shut_bool Tryz.underlying4 _),(trodAll_cons_mk (Below.trod jz kr (of_decide_eq_true kr) z0 bel lt0) (trodAll_cons_mk (Below.trod jz kr (of_decide_eq_true kr) z1 bel lt1) (trodAll_cons_mk (Below.trod jz kr (of_decide_eq_true kr) z2 bel lt2) (trodAll_cons_mk (Below.trod jz kr (of_decide_eq_true kr) z3 bel lt3) (trodAll_cons_mk (Below.trod jz kr (of_decide_eq_true kr) z4 bel lt4) trodAll_mk0))))),rfl,bel.frame _,fun h=>by cases h⟩
theorem kL {a b:Bool} (h:a=true) (k:b=true):(a&&b)=true:=by rw [h,k]; rfl
theorem wD:(Rows.syncSecretRow.wf (OpenSpec.ofChange Rows.syncSecretSpec))=true:=kr
theorem wQ:(laidOutB Tryz.prog)=true:=kr
theorem wx:(mapsRowed Tryz.prog)=true:=kr
theorem wK:(Tryz.f6.params.all (Tryz.prog.readableRec ·))=true:=kr
theorem wG:(namedTie Tryz.prog Rows.syncSecretRow.named Rows.syncSecretSpec.vars)=true:=kr
theorem wL:(Rows.syncSecretRow.stops==[])=true:=kr
theorem wA:(Tryz.prog.stops==[])=true:=kr
theorem wN:(Rows.syncSecretRow.knobs==[])=true:=kr
theorem wP:(Tryz.prog.stopKnobs==[])=true:=kr
theorem wE:(Rows.syncSecretRow.inPlace==Tryz.prog.inPlace 6)=true:=kr
theorem ub:(Rows.syncSecretRow.unfollowed==Tryz.prog.unfollowed 6)=true:=kr
theorem vQ:(Rows.syncSecretRow.recurses==Tryz.prog.recurses 6)=true:=kr
theorem uf:(Rows.syncSecretRow.named==Tryz.prog.varsNamed 6)=true:=kr
theorem vA:(Rows.syncSecretRow.maps==(Tryz.f6.params.toList++Rows.syncSecretSpec.plain.varTypes Tryz.prog).any (Tryz.prog.mapsRec ·))=true:=kr
theorem vJ:(Rows.syncSecretRow.ifaces==(Tryz.f6.params.toList++Rows.syncSecretSpec.plain.varTypes Tryz.prog).any (Tryz.prog.ifacesRec ·))=true:=kr
theorem ua:(Rows.syncSecretRow.mapsOut==Tryz.prog.mapsAmong Tryz.f6.resultTypes.toList)=true:=kr
theorem uW:(Rows.syncSecretRow.loops==(Tryz.f6.params.toList++Rows.syncSecretSpec.plain.varTypes Tryz.prog).any (Tryz.prog.loopsFrom ·))=true:=kr
theorem u9:(Rows.syncSecretRow.wideKeys==(Tryz.f6.params.toList++Rows.syncSecretSpec.plain.varTypes Tryz.prog++Tryz.f6.resultTypes.toList).any (Tryz.prog.wideKeysFrom ·))=true:=kr
theorem vE:(Rows.syncSecretSpec.vars.all (Tryz.prog.varReadable ·))=true:=kr
theorem uE:(Tryz.f6.resultTypes.all (fun t=>Tryz.prog.readableRec t&&decide (t<Tryz.prog.types.size)))=true:=kr
theorem vK:(Rows.syncSecretRow.ifacesOut==Tryz.f6.resultTypes.toList.any (Tryz.prog.ifacesRec ·))=true:=kr
theorem vV:(Rows.syncSecretRow.loopsOut==Tryz.f6.resultTypes.toList.any (Tryz.prog.loopsFrom ·))=true:=kr
theorem vX:(Rows.syncSecretRow.plainKeys==Tryz.prog.plainKeys)=true:=kr
theorem uj:(Rows.syncSecretRow.shortTexts.isNone)=true:=kr
theorem uG:(Tryz.prog.stopsHeard)=true:=kr
theorem u7:(Tryz.prog.mayEnter)=true:=kr
theorem ui:(Rows.syncSecretRow.lifted==Tryz.prog.liftsFinal)=true:=kr
theorem uQ:(Tryz.prog.make==some Rows.syncSecretRow.make)=true:=kr
theorem wo:(Rows.syncSecretRow.kinds==(if Rows.syncSecretRow.domain.isEmpty then [] else Tryz.f6.params.toList.map fun t=>match Tryz.prog.underlying t with | some (.int k)=>some k | _=>none))=true:=kr
theorem uk:(Rows.syncSecretRow.pinned==Rows.syncSecretRow.pinnedBy)=true:=kr
theorem uB:(Rows.syncSecretRow.veiled==(Tryz.f6.params.toList++Rows.syncSecretSpec.plain.varTypes Tryz.prog++Tryz.f6.resultTypes.toList).any (Tryz.prog.veiledRec ·))=true:=kr
theorem uS:(Rows.syncSecretRow.veiledFits Tryz.prog Tryz.f6.params.toList (Tryz.f6.params.toList++Rows.syncSecretSpec.plain.varTypes Tryz.prog++Tryz.f6.resultTypes.toList))=true:=kr
theorem q9:joinedFacts Tryz.prog 6 Tryz.f6 Rows.syncSecretSpec Rows.syncSecretRow=true:=
 (kL (kL (kL (kL (kL (kL (kL (kL (kL (kL (kL (kL (kL (kL (kL (kL (kL (kL (kL (kL (kL (kL (kL (kL (kL (kL (kL (kL (kL (kL (kL wD wQ) wx) wK) wG) wL) wA) wN) wP) wE) ub) vQ) uf) vA) vJ) ua) uW) u9) vE) uE) vK) vV) vX) uj) uG) u7) ui) uQ) wo) uk) uB) uS)
theorem ou:Rows.SyncSecretSaid:=
 OpenClaim.holds_of_wide 6 Tryz.f6 rfl rfl rfl rfl rfl rfl rfl ⟨rfl,rfl,rfl,rfl,rfl⟩ rfl rfl rfl rfl rfl kr Tryz.func6 q9
  (of_decide_eq_true kr) (by unfold Func.isWrapper; first | (rw [if_pos (by decide +kernel)]; kernel_rfl) | (rw [if_neg (by decide +kernel)]; exact ⟨rfl,rfl⟩))
  (fun os started H enc _=>rm os started H enc)
theorem wS:Rows.syncSecretRow.wfByText (OpenSpec.ofChange Rows.syncSecretSpec)=true:=kr
theorem wB : Tryz.pinned.checked.prog.mainIs = some ((true, "f45694f1cc62f08cd2854a34bf8f78a3ddeb0c9bd712b7f6a62994e0668ffc0a").1, (true, "f45694f1cc62f08cd2854a34bf8f78a3ddeb0c9bd712b7f6a62994e0668ffc0a").2.toList) := by kernel_rfl
theorem wV : Tryz.prog.funcNamed "concourse/concourselaw21.SyncSecret" = some 6 := by kernel_rfl
theorem wI:true=Tryz.pinned.checked.prog.looks []:=kr
theorem wC:([22,22,23,3,3].all fun u=>!Tryz.prog.wantsStandIn u)=true:=kr
theorem wy:false=Rows.syncSecretRow.goesBy Tryz.pinned.checked.prog:=kr
theorem syncSecret_tied:Rows.SyncSecretCardSaid:=
 Claim7.holds_tied_plain_at .later [] [.data, .pinned] true (true, "f45694f1cc62f08cd2854a34bf8f78a3ddeb0c9bd712b7f6a62994e0668ffc0a") true ou (fun _ h => by cases h) wS (fun _ h => by cases h) syncSecret_row_tie rfl ⟨rfl, rfl⟩ wB rfl
  (fun f fn hf hfn=>by
   obtain rfl:f=6:=Option.some.inj (wV.symm.trans hf) |>.symm
   obtain rfl:fn=Tryz.f6:=(Option.some.inj (Tryz.func6.symm.trans hfn)).symm
   exact ⟨wI,fun j t ht=>by
    rw [Tryz.params6] at ht
    have hm:t∈[22,22,23,3,3]:=by simpa using Array.mem_of_getElem? ht
    exact (show Tryz.prog.wantsStandIn t=false by simpa using List.all_eq_true.1 wC t hm)⟩)
  wy
#print axioms ou
end Go.Proofs.YtfknmdelgepbjaaGreatDoor
