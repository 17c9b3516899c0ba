import Derived.Test.YtcchplmcefamhaaGreatZWalks1
import Derived.Test.YtcchplmcefamhaaGreatConQ
import Derived.Test.YtcchplmcefamhaaGreatConA6
import Derived.Test.YtcchplmcefamhaaGreatConC2
import Derived.Eval
set_option linter.all false
set_option maxRecDepth 10000
set_option maxHeartbeats 20000000
namespace Go.Proofs.YtcchplmcefamhaaGreat
open Go Go.Sp
theorem r07_Depth.c {k:Nat} {a0:RDag} {a1:ByteArray} {r:Int} (h:r07_Depth.f k a0 a1 = some r):Pt Tryz.prog 49 [agg (RDag.enc a0),vS a1] (vI r):=by
 unfold r07_Depth.f at h
 refine pb Tryz.func49 Tryz.ntmps49 h fun R0 F H=>?_
 refine WP.seq<|rg 2 1<|Dv.box rfl trivial rfl cA nofun fun b836=>as0 rfl rfl<|.fin<|WP.seq<|rg 4 0<|lds 0 rfl trivial rfl sg52 rfl rfl<|mv0 rfl rfl<|el H fun t837 h838 H=>cl rfl cal53 rfl (r07_At.c h838)<|as0 rfl rfl<|.fin<|WP.seq<|WP.seq<|rg 2 0<|mv0 rfl rfl<|bn0 rfl rfl rfl run_lt<|.fin<|cd H rfl (fun _ H=>?_) (fun _ H=>?_)
 ·
  refine WP.seq<|rg 1 0<|as0 rfl rfl<|.fin ?_
  cases H.out; exact r1 i2 rfl (.cons (res_tmp rfl) .nil)
 refine WP.skip<|WP.seq<|rg 4 4<|mv0 rfl rfl<|bn0 rfl rfl rfl run_add<|gr H fun g840 H=>?_
 obtain ⟨ti841,ti841a,ti841b,ti841c,ti841d⟩:=inf3
 refine Dv.mks (Kd:=(intK .i64)) (0:Int) rfl trivial rfl rfl Tryz.underlying72 ti841a ti841b ti841c ti841d rfl (by decide) rfl g840 nofun (fun v842=>?_)
 refine as0 rfl rfl<|.fin<|WP.seqn H id (fun p843:Int×Bool×(List Int)=>[(0,agg (RDag.enc a0)),(1,vS a1),(2,eq (.pointer (some ⟨b836,0,none⟩))),(4,vI 0),(5,vI t837),(6,eq v842.1),(7,vI p843.1),(13,vB (decide (t837 < 0))),(19,vB p843.2.1)]) (fun p843:Int×Bool×(List Int)=>[blk b836 52 (RDag.enc a0),own (intK .i64) v842.1 p843.2.2]++F) (fun p843 H=>?_) (fun H=>?_)
 ·
  refine WP.seq<|rg 5 0<|mv0 rfl rfl<|mv0 rfl rfl<|gr H fun g844 H=>?_
  have h845:t837.toNat < p843.2.2.length:=idx_lt g844
  refine Dv.ixw rfl trivial rfl (mem_at 1 rfl) rfl Tryz.underlying72 Tryz.underlying3 c3 g844.1 g844.2<|Dv.ldw (j:=t837.toNat) (f:=0) (p:=vI (p843.2.2.getD t837.toNat default)) rfl trivial rfl (mem_at 1 rfl) h845 Tryz.underlying3 rfl rfl<|as0 rfl rfl<|.fin ?_
  cases H.out; exact r2 i2 rfl (.cons (res_tmp rfl) .nil)
 refine WP.seq<|rg 1 0<|as0 rfl rfl<|.fin<|WP.block<|wg (sg 2 [1,0] 0) fun _ _=>?_
 refine lp (fun j_ (p867:Int×(List Int))=>r07_Depth.l0 k a0 t837 j_ p867.1 p867.2) (0,List.replicate (w64 (t837 + 1)).toNat (0:Int)) H (fun p867=>[(0,agg (RDag.enc a0)),(1,vS a1),(2,eq (.pointer (some ⟨b836,0,none⟩))),(4,vI 0),(5,vI t837),(6,eq v842.1),(7,vI p867.1),(13,vB (decide (t837 < 0)))]) (fun p867=>[blk b836 52 (RDag.enc a0),own (intK .i64) v842.1 p867.2]++F) ?_
 rintro j_ ⟨x846,x847⟩ H
 rcases j_ with _ | j866
 ·
  exact (Gets.no H).elim
 replace H:Gets (r07_Depth.l0 k a0 t837 (j866 + 1) x846 x847) _:=H
 rw [r07_Depth.l0] at H
 refine WP.seq<|WP.seq<|rg 3 0<|mv0 rfl rfl<|mv0 rfl rfl<|bn0 rfl rfl rfl run_le<|.fin<|cd H rfl (fun _ H=>?_) (fun _ H=>?_)
 rotate_left
 ·
  refine WP.exit ?_
  have H:=H.out
  exact jn (x846,decide (x846≤t837),x847) H
 refine WP.skip<|WP.seqn H id (fun p849:Int×Bool×(List Int)=>[(0,agg (RDag.enc a0)),(1,vS a1),(2,eq (.pointer (some ⟨b836,0,none⟩))),(4,vI 0),(5,vI t837),(6,eq v842.1),(7,vI x846),(8,vI p849.1),(13,vB (decide (t837 < 0))),(19,vB (decide (x846≤t837))),(30,vB p849.2.1)]) (fun p849:Int×Bool×(List Int)=>[blk b836 52 (RDag.enc a0),own (intK .i64) v842.1 p849.2.2]++F) (fun p849 H=>?_) (fun H=>?_)
 ·
  exact rg 3 0<|mv0 rfl rfl<|bn0 rfl rfl rfl run_add<|as0 rfl rfl<|.fin<|bk j866 (w64 (x846 + 1),p849.2.2) H
 refine WP.block<|WP.seq<|rg 1 0<|as0 rfl rfl<|.fin<|WP.block<|wg (sg 2 [0,1] 0) fun _ _=>?_
 refine lp (fun j_ (p865:Int×(List Int))=>r07_Depth.l1 k a0 x846 j_ p865.1 p865.2) (0,x847) H (fun p865=>[(0,agg (RDag.enc a0)),(1,vS a1),(2,eq (.pointer (some ⟨b836,0,none⟩))),(4,vI 0),(5,vI t837),(6,eq v842.1),(7,vI x846),(8,vI p865.1),(13,vB (decide (t837 < 0))),(19,vB (decide (x846≤t837)))]) (fun p865=>[blk b836 52 (RDag.enc a0),own (intK .i64) v842.1 p865.2]++F) ?_
 rintro j_ ⟨x850,x851⟩ H
 rcases j_ with _ | j864
 ·
  exact (Gets.no H).elim
 replace H:Gets (r07_Depth.l1 k a0 x846 (j864 + 1) x850 x851) _:=H
 rw [r07_Depth.l1] at H
 refine WP.seq<|WP.seq<|rg 9 0<|mv0 rfl rfl<|fb rfl trivial rfl fa52_1<|ld 0 rfl trivial rfl sc33 rfl rfl<|mv0 rfl rfl<|gr H fun g852 H=>Dv.ixr rfl trivial rfl rfl Tryz.underlying33 Tryz.underlying40 c40 g852.1 g852.2<|fr rfl trivial rfl fa40_2 rfl<|ldR rfl trivial rfl sc38 rfl<|Dv.lenl rfl trivial rfl Tryz.underlying38<|bn0 rfl rfl rfl run_lt<|.fin<|cd H rfl (fun _ H=>?_) (fun _ H=>?_)
 rotate_left
 ·
  refine WP.exit ?_
  have H:=H.out
  exact jn (x850,decide (x850 < (((Event.K.at a0.fL x846).fParents).length:Int)),x851) H
 refine WP.skip<|WP.seq<|WP.block<|dg Tryz.checked.mixed 24 8388608<|mv0 rfl rfl<|mv0 rfl rfl<|mv0 rfl rfl<|mv0 rfl rfl<|gr H fun g854 H=>?_
 have h855:x846.toNat < x851.length:=idx_lt g854
 refine Dv.ixw rfl trivial rfl (mem_at 1 rfl) rfl Tryz.underlying72 Tryz.underlying3 c3 g854.1 g854.2<|Dv.ldw (j:=x846.toNat) (f:=0) (p:=vI (x851.getD x846.toNat default)) rfl trivial rfl (mem_at 1 rfl) h855 Tryz.underlying3 rfl rfl<|mv0 rfl rfl<|lds 0 rfl trivial rfl sg52 rfl rfl<|fb rfl trivial rfl fa52_1<|ld 0 rfl trivial rfl sc33 rfl rfl<|mv0 rfl rfl<|gr H fun g856 H=>Dv.ixr rfl trivial rfl rfl Tryz.underlying33 Tryz.underlying40 c40 g856.1 g856.2<|fr rfl trivial rfl fa40_2 rfl<|ldR rfl trivial rfl sc38 rfl<|mv0 rfl rfl<|gr H fun g857 H=>Dv.ixr rfl trivial rfl rfl Tryz.underlying38 Tryz.underlying9 c9 g857.1 g857.2<|ldR rfl trivial rfl sc9 rfl<|el H fun t858 h859 H=>cl rfl cal53 rfl (r07_At.c h859)<|gr H fun g860 H=>?_
 have h861:t858.toNat < x851.length:=idx_lt g860
 refine Dv.ixw rfl trivial rfl (mem_at 1 rfl) rfl Tryz.underlying72 Tryz.underlying3 c3 g860.1 g860.2<|Dv.ldw (j:=t858.toNat) (f:=0) (p:=vI (x851.getD t858.toNat default)) rfl trivial rfl (mem_at 1 rfl) h861 Tryz.underlying3 rfl rfl<|bn0 rfl rfl rfl run_add<|Dv.maxi rfl trivial rfl rfl<|gr H fun g862 H=>?_
 have h863:x846.toNat < x851.length:=idx_lt g862
 exact Dv.ixw rfl trivial rfl (mem_at 1 rfl) rfl Tryz.underlying72 Tryz.underlying3 c3 g862.1 g862.2<|Dv.stw (j:=x846.toNat) (f:=0) (jj:=1) (max (x851.getD x846.toNat default) (w64 ((x851.getD t858.toNat default) + 1))) rfl trivial rfl rfl (cells_one (one_eq rfl)) Tryz.underlying3 c3 rfl rfl h863 (Nat.le_of_ble_eq_true rfl) rfl (fun _=>pend_bits (by kernel_rfl))<|.fin<|rg 3 0<|mv0 rfl rfl<|bn0 rfl rfl rfl run_add<|as0 rfl rfl<|.fin<|bk j864 (w64 (x850 + 1),x851.set x846.toNat (max (x851.getD x846.toNat default) (w64 ((x851.getD t858.toNat default) + 1)))) H
theorem r07_Position.c {k:Nat} {a0:RDag} {a1:ByteArray} {r:Pos} (h:r07_Position.f k a0 a1 = some r):Pt Tryz.prog 32 [agg (RDag.enc a0),vS a1] (agg (Pos.enc r)):=by
 unfold r07_Position.f at h
 refine pb Tryz.func32 Tryz.ntmps32 h fun R0 F H=>?_
 refine WP.seq<|rg 2 3<|Dv.box rfl trivial rfl cA nofun fun b868=>al rfl trivial zc68 nofun fun b869=>.fin<|WP.seq<|rg 6 32<|lds 1 rfl trivial rfl sg52 rfl rfl<|mv0 rfl rfl<|el H fun t870 h871 H=>cl rfl cal49 rfl (r07_Depth.c h871)<|mv0 rfl rfl<|Dv.bld (qs:=[vI t870,vS a1]) (css:=[[vI t870],[vS a1]]) rfl trivial Tryz.underlying68 pl68 z68 rfl ⟨(cells_one (one_eq rfl)),⟨(cells_one (one_eq rfl)),trivial⟩⟩ rfl rfl<|sx 0 rfl trivial rfl rfl cA sz68 rfl rfl rfl nofun ?_
 refine .fin ?_
 cases H.out; exact r2 i2 rfl (.cons (res_cells rfl Tryz.underlying68 rfl c68 (mem_at 0 rfl) rfl) .nil)
theorem r07_All.c {k:Nat} {a0:RDag} {r:(List Event)} (h:r07_All.f k a0 = some r):Pt Tryz.prog 20 [agg (RDag.enc a0)] (sl Event.K r):=by
 unfold r07_All.f at h
 refine pb Tryz.func20 Tryz.ntmps20 h fun R0 F H=>?_
 refine WP.seq<|rg 2 1<|Dv.box rfl trivial rfl cA nofun fun b872=>as0 rfl rfl<|.fin<|WP.seq<|rg 1 0<|Dv.asgn Event.K rfl trivial rfl<|.fin<|WP.seqn H id (fun p873:(List Event)×Int×Bool=>[(0,agg (RDag.enc a0)),(1,eq (.pointer (some ⟨b872,0,none⟩))),(2,eq (.slice none 0 0)),(3,sl Event.K p873.1),(4,vI p873.2.1),(11,vB p873.2.2)]) (fun p873:(List Event)×Int×Bool=>[blk b872 52 (RDag.enc a0)]++F) (fun p873 H=>?_) (fun H=>?_)
 ·
  refine WP.seq<|rg 2 0<|mv0 rfl rfl<|as0 rfl rfl<|.fin ?_
  cases H.out; exact r1 i2 rfl (.cons (res_tmp rfl) .nil)
 refine WP.seq<|rg 1 0<|as0 rfl rfl<|.fin<|WP.block<|wg (sg 1 [0] 0) fun _ _=>?_
 refine lp (fun j_ (p903:(List Event)×Int)=>r07_All.l0 k a0 j_ p903.1 p903.2) (([]:List Event),0) H (fun p903=>[(0,agg (RDag.enc a0)),(1,eq (.pointer (some ⟨b872,0,none⟩))),(2,eq (.slice none 0 0)),(3,sl Event.K p903.1),(4,vI p903.2)]) (fun p903=>[blk b872 52 (RDag.enc a0)]++F) ?_
 rintro j_ ⟨x874,x875⟩ H
 rcases j_ with _ | j902
 ·
  exact (Gets.no H).elim
 replace H:Gets (r07_All.l0 k a0 (j902 + 1) x874 x875) _:=H
 rw [r07_All.l0] at H
 refine WP.seq<|WP.seq<|rg 5 0<|mv0 rfl rfl<|fb rfl trivial rfl fa52_1<|ld 0 rfl trivial rfl sc33 rfl rfl<|Dv.lenl rfl trivial rfl Tryz.underlying33<|bn0 rfl rfl rfl run_lt<|.fin<|cd H rfl (fun _ H=>?_) (fun _ H=>?_)
 rotate_left
 ·
  refine WP.exit ?_
  have H:=H.out
  exact jn (x874,x875,decide (x875 < (a0.fL.length:Int))) H
 refine WP.skip<|WP.seqn H id (fun p877:(List Event)×Int×Bool=>[(0,agg (RDag.enc a0)),(1,eq (.pointer (some ⟨b872,0,none⟩))),(2,eq (.slice none 0 0)),(3,sl Event.K p877.1),(4,vI x875),(5,vI p877.2.1),(11,vB (decide (x875 < (a0.fL.length:Int)))),(35,vB p877.2.2)]) (fun p877:(List Event)×Int×Bool=>[blk b872 52 (RDag.enc a0)]++F) (fun p877 H=>?_) (fun H=>?_)
 ·
  exact rg 3 0<|mv0 rfl rfl<|bn0 rfl rfl rfl run_add<|as0 rfl rfl<|.fin<|bk j902 (p877.1,w64 (x875 + 1)) H
 refine WP.block<|WP.seq<|rg 1 0<|as0 rfl rfl<|.fin<|WP.seqn H id (fun p878:Int×Bool=>[(0,agg (RDag.enc a0)),(1,eq (.pointer (some ⟨b872,0,none⟩))),(2,eq (.slice none 0 0)),(3,sl Event.K x874),(4,vI x875),(5,vI p878.1),(11,vB (decide (x875 < (a0.fL.length:Int)))),(35,vB p878.2)]) (fun p878:Int×Bool=>[blk b872 52 (RDag.enc a0)]++F) (fun p878 H=>?_) (fun H=>?_)
 rotate_left
 ·
  refine WP.block<|wg (sg 1 [0] 0) fun _ _=>?_
  refine lp (fun j_ (p901:Int)=>r07_All.l1 k a0 x874 x875 j_ p901) 0 H (fun p901=>[(0,agg (RDag.enc a0)),(1,eq (.pointer (some ⟨b872,0,none⟩))),(2,eq (.slice none 0 0)),(3,sl Event.K x874),(4,vI x875),(5,vI p901),(11,vB (decide (x875 < (a0.fL.length:Int))))]) (fun p901=>[blk b872 52 (RDag.enc a0)]++F) ?_
  rintro j_ x888 H
  rcases j_ with _ | j900
  ·
   exact (Gets.no H).elim
  replace H:Gets (r07_All.l1 k a0 x874 x875 (j900 + 1) x888) _:=H
  rw [r07_All.l1] at H
  refine WP.seq<|WP.seq<|dg Tryz.checked.mixed 22 0<|mv0 rfl rfl<|mv0 rfl rfl<|Dv.lenl rfl trivial rfl Tryz.underlying33<|bn0 rfl rfl rfl run_lt<|mv0 rfl rfl ?_
  cases c889:decide (x888 < (x874.length:Int))
  ·
   have H:=H.cf c889
   refine sk rfl rfl<|sk rfl rfl<|sk rfl rfl<|sk rfl rfl<|sk rfl rfl<|sk rfl rfl<|sk rfl rfl<|sk rfl rfl<|sk rfl rfl<|sk rfl rfl<|sk rfl rfl<|sk rfl rfl<|sk rfl rfl<|sk rfl rfl<|sk rfl rfl<|sk rfl rfl<|pf0 rfl rfl rfl<|.fin<|WP.cond rfl nofun (fun _=>?_)
   refine WP.exit ?_
   have H:=H.out
   exact jn (x888,false) H
  have H:=H.ct c889
  refine lds 0 rfl (gg rfl) rfl sg52 rfl rfl<|mvg rfl rfl rfl<|mvg rfl rfl rfl<|gr H fun g890 H=>Dv.ixr rfl (gg rfl) rfl rfl Tryz.underlying33 Tryz.underlying40 c40 g890.1 g890.2<|fr rfl (gg rfl) rfl fa40_0 rfl<|ldR rfl (gg rfl) rfl sc9 rfl<|el H fun t891 h892 H=>Dv.call rfl (gg rfl) cal32 rfl (r07_Position.c h892)<|lds 0 rfl (gg rfl) rfl sg52 rfl rfl<|fb rfl (gg rfl) rfl fa52_1<|ld 0 rfl (gg rfl) rfl sc33 rfl rfl<|mvg rfl rfl rfl<|gr H fun g893 H=>Dv.ixr rfl (gg rfl) rfl rfl Tryz.underlying33 Tryz.underlying40 c40 g893.1 g893.2<|fr rfl (gg rfl) rfl fa40_0 rfl<|ldR rfl (gg rfl) rfl sc9 rfl<|el H fun t894 h895 H=>Dv.call rfl (gg rfl) cal32 rfl (r07_Position.c h895)<|el H fun t896 h897 H=>Dv.call rfl (gg rfl) cal31 rfl (r07_Before.c h897)<|pt0 rfl rfl rfl<|.fin<|cd H rfl (fun _ H=>?_) (fun _ H=>?_)
  rotate_left
  ·
   refine WP.exit ?_
   have H:=H.out
   exact jn (x888,t896) H
  exact WP.skip<|WP.block<|rg 3 0<|mv0 rfl rfl<|bn0 rfl rfl rfl run_add<|as0 rfl rfl<|.fin<|bk j900 (w64 (x888 + 1)) H
 refine WP.seq<|rg 1 0<|as0 rfl rfl<|.fin<|WP.seq<|rg 6 16<|mv0 rfl rfl<|mv0 rfl rfl<|mv0 rfl rfl<|gr H fun g879 H=>Dv.sls rfl trivial rfl Tryz.underlying33 Tryz.underlying40 c40 bdE_none (bdE_some rfl g879.1) g879.2.1 g879.2.2<|vg (st_nil Event.K none) fun _ _=>?_
 refine gr H fun g880 H=>ap Event.K 0 ((x874.take p878.1.toNat).drop 0) src_sl Tryz.underlying33 (.inr ⟨_,Tryz.underlying33⟩) inf40 g880 nofun fun v881=>?_
 refine as0 rfl rfl<|.fin<|WP.seq<|rg 9 128<|mv0 rfl rfl<|fb rfl trivial rfl fa52_1<|ld 1 rfl trivial rfl sc33 rfl rfl<|mv0 rfl rfl<|gr H fun g882 H=>Dv.ixr rfl trivial rfl rfl Tryz.underlying33 Tryz.underlying40 c40 g882.1 g882.2<|ldsR rfl trivial rfl sg40 rfl<|Dv.lit Event.K ([Event.K.at a0.fL x875]:List Event) (css:=[Event.enc (Event.K.at a0.fL x875)]) rfl trivial Tryz.underlying33 Tryz.underlying40 c40 z40 rfl (by decide) (by decide) rfl ⟨(cells_agg (Event.K.one _)),trivial⟩ rfl rfl rfl<|gr H fun g883 H=>ap Event.K 0 ([Event.K.at a0.fL x875]:List Event) src_sl Tryz.underlying33 (.inr ⟨_,Tryz.underlying33⟩) inf40 g883 nofun fun v884=>?_
 refine as0 rfl rfl<|.fin<|rg 6 16<|mv0 rfl rfl<|mv0 rfl rfl<|mv0 rfl rfl<|gr H fun g885 H=>Dv.sls rfl trivial rfl Tryz.underlying33 Tryz.underlying40 c40 (bdE_some rfl g885.1) bdE_none g885.2.1 g885.2.2<|gr H fun g886 H=>ap Event.K 0 ((x874.take x874.length).drop p878.1.toNat) src_sl Tryz.underlying33 (.inr ⟨_,Tryz.underlying33⟩) inf40 g886 nofun fun v887=>?_
 refine Dv.gh (gh_frz (E':=[(0,agg (RDag.enc a0)),(1,eq (.pointer (some ⟨b872,0,none⟩))),(2,eq (.slice none 0 0)),(3,sl Event.K x874),(4,vI x875),(5,vI p878.1),(11,vB (decide (x875 < (a0.fL.length:Int)))),(35,vB p878.2),(55,sl Event.K (((([]:List Event)++((x874.take p878.1.toNat).drop 0))++([Event.K.at a0.fL x875]:List Event))++((x874.take x874.length).drop p878.1.toNat)))]) (l':=[blk b872 52 (RDag.enc a0)]++F) 0 rfl (cve_cons rfl cv_id (cve_cons rfl cv_id (cve_cons rfl cv_id (cve_cons rfl cv_id (cve_cons rfl cv_id (cve_cons rfl cv_id (cve_cons rfl cv_id (cve_cons rfl cv_id (cve_cons rfl cv_eq cve_nil))))))))) (all2_app (.cons cva_id .nil) fun _=>cva_id)) (fun _ _=>?_)
 refine as0 rfl rfl<|.fin ?_
 have H:=H.out
 exact jn (((([]:List Event)++((x874.take p878.1.toNat).drop 0))++([Event.K.at a0.fL x875]:List Event))++((x874.take x874.length).drop p878.1.toNat),p878.1,p878.2) H
theorem r10_Same.c {k:Nat} {a0:RView} {a1:RView} {r:Bool} (h:r10_Same.f k a0 a1 = some r):Pt Tryz.prog 6 [agg (RView.enc a0),agg (RView.enc a1)] (vB r):=by
 unfold r10_Same.f at h
 refine pb Tryz.func6 Tryz.ntmps6 h fun R0 F H=>?_
 refine WP.seq<|rg 3 3<|Dv.box rfl trivial rfl cA nofun fun b904=>Dv.box rfl trivial rfl cA nofun fun b905=>as0 rfl rfl<|.fin<|WP.seq<|WP.seq<|rg 7 0<|fb rfl trivial rfl fa26_0<|ld 1 rfl trivial rfl sc24 rfl rfl<|Dv.lenl rfl trivial rfl Tryz.underlying24<|fb rfl trivial rfl fa26_0<|ld 0 rfl trivial rfl sc24 rfl rfl<|Dv.lenl rfl trivial rfl Tryz.underlying24<|bn0 rfl rfl rfl run_ne<|.fin<|cd H rfl (fun _ H=>?_) (fun _ H=>?_)
 ·
  refine WP.seq<|rg 1 0<|as0 rfl rfl<|.fin ?_
  cases H.out; exact r2 i2 rfl (.cons (res_tmp rfl) .nil)
 refine WP.skip<|WP.seqr H id (fun p907:Int×Bool=>[(0,agg (RView.enc a0)),(1,agg (RView.enc a1)),(2,eq (.pointer (some ⟨b904,0,none⟩))),(3,eq (.pointer (some ⟨b905,0,none⟩))),(4,vB false),(5,vI p907.1),(13,vB ((a0.fD.length:Int) != (a1.fD.length:Int))),(18,vB p907.2)]) (fun p907:Int×Bool=>[blk b905 26 (RView.enc a1),blk b904 26 (RView.enc a0)]++F) (fun p907 H=>?_) (fun H=>?_)
 ·
  refine WP.seq<|rg 1 0<|as0 rfl rfl<|.fin ?_
  cases H.out; exact r2 i2 rfl (.cons (res_tmp rfl) .nil)
 refine WP.seq<|rg 1 0<|as0 rfl rfl<|.fin<|WP.block<|wg (sg 2 [0,1] 0) fun _ _=>?_
 refine lp (fun j_ (p924:Int)=>r10_Same.l0 k a0 a1 j_ p924) 0 H (fun p924=>[(0,agg (RView.enc a0)),(1,agg (RView.enc a1)),(2,eq (.pointer (some ⟨b904,0,none⟩))),(3,eq (.pointer (some ⟨b905,0,none⟩))),(4,vB false),(5,vI p924),(13,vB ((a0.fD.length:Int) != (a1.fD.length:Int)))]) (fun p924=>[blk b905 26 (RView.enc a1),blk b904 26 (RView.enc a0)]++F) ?_
 rintro j_ x908 H
 rcases j_ with _ | j923
 ·
  exact (Gets.no H).elim
 replace H:Gets (r10_Same.l0 k a0 a1 (j923 + 1) x908) _:=H
 rw [r10_Same.l0] at H
 refine WP.seq<|WP.seq<|rg 5 0<|mv0 rfl rfl<|fb rfl trivial rfl fa26_0<|ld 1 rfl trivial rfl sc24 rfl rfl<|Dv.lenl rfl trivial rfl Tryz.underlying24<|bn0 rfl rfl rfl run_lt<|.fin<|cd H rfl (fun _ H=>?_) (fun _ H=>?_)
 rotate_left
 ·
  refine WP.exit ?_
  have H:=H.out
  exact jn (x908,decide (x908 < (a0.fD.length:Int))) H
 refine WP.skip<|WP.seq<|WP.block<|WP.seq<|dg Tryz.checked.mixed 14 0<|fb rfl trivial rfl fa26_0<|ld 1 rfl trivial rfl sc24 rfl rfl<|mv0 rfl rfl<|gr H fun g910 H=>Dv.ixr rfl trivial rfl rfl Tryz.underlying24 Tryz.underlying52 c52 g910.1 g910.2<|ldsR rfl trivial rfl sg52 rfl<|el H fun t911 h912 H=>cl rfl cal20 rfl (r07_All.c h912)<|fb rfl trivial rfl fa26_0<|ld 0 rfl trivial rfl sc24 rfl rfl<|mv0 rfl rfl<|gr H fun g913 H=>Dv.ixr rfl trivial rfl rfl Tryz.underlying24 Tryz.underlying52 c52 g913.1 g913.2<|ldsR rfl trivial rfl sg52 rfl<|el H fun t914 h915 H=>cl rfl cal20 rfl (r07_All.c h915)<|el H fun t916 h917 H=>cl rfl cal19 rfl (r07_SameAll.c h917)<|as0 rfl rfl<|.fin<|WP.seq<|dg Tryz.checked.mixed 17 0<|mv0 rfl rfl<|un0 rfl rfl (run_not _)<|mv0 rfl rfl ?_
 cases c918:!t916
 rotate_left
 ·
  have H:=H.ct c918
  refine sk rfl rfl<|sk rfl rfl<|sk rfl rfl<|sk rfl rfl<|sk rfl rfl<|sk rfl rfl<|sk rfl rfl<|sk rfl rfl<|sk rfl rfl<|sk rfl rfl<|sk rfl rfl<|sk rfl rfl<|sk rfl rfl<|pt0 rfl rfl rfl<|.fin<|WP.cond rfl (fun _=>?_) nofun
  refine WP.seq<|rg 1 0<|as0 rfl rfl<|.fin ?_
  have H:=H.outr
  cases H.out; exact r2 i2 rfl (.cons (res_tmp rfl) .nil)
 have H:=H.cf c918
 refine fb rfl (gg rfl) rfl fa26_0<|ld 1 rfl (gg rfl) rfl sc24 rfl rfl<|mvg rfl rfl rfl<|gr H fun g920 H=>Dv.ixr rfl (gg rfl) rfl rfl Tryz.underlying24 Tryz.underlying52 c52 g920.1 g920.2<|fr rfl (gg rfl) rfl fa52_0 rfl<|ldR rfl (gg rfl) rfl sc9 rfl<|fb rfl (gg rfl) rfl fa26_0<|ld 0 rfl (gg rfl) rfl sc24 rfl rfl<|mvg rfl rfl rfl<|gr H fun g921 H=>Dv.ixr rfl (gg rfl) rfl rfl Tryz.underlying24 Tryz.underlying52 c52 g921.1 g921.2<|fr rfl (gg rfl) rfl fa52_0 rfl<|ldR rfl (gg rfl) rfl sc9 rfl<|bng rfl rfl rfl rfl run_sne<|pf0 rfl rfl rfl<|.fin<|cd H rfl (fun _ H=>?_) (fun _ H=>?_)
 rotate_left
 ·
  exact WP.skip<|rg 3 0<|mv0 rfl rfl<|bn0 rfl rfl rfl run_add<|as0 rfl rfl<|.fin<|bk j923 (w64 (x908 + 1)) H
 refine WP.seq<|rg 1 0<|as0 rfl rfl<|.fin ?_
 have H:=H.outr
 cases H.out; exact r2 i2 rfl (.cons (res_tmp rfl) .nil)
theorem dag_Dag_Event.c {a0:DDag} {a1:ByteArray} {v0_0:OV} {b0_:Nat} {r:Event×Bool} (h:dag_Dag_Event.f a0 a1 = some r):Tr Tryz.prog 33 [eq (.pointer (some ⟨b0_,0,none⟩)),vS a1] [blk b0_ 82 [vS a0.froom,eq v0_0.1],mpo Value.string DNode.O v0_0.1 a0.fnodes] (γ:=Unit) (fun _=>True) (fun g=>tup [agg (Event.enc r.1),vB r.2]) (fun g=>[blk b0_ 82 [vS a0.froom,eq v0_0.1],mpo Value.string DNode.O v0_0.1 a0.fnodes]):=by
 unfold dag_Dag_Event.f at h
 refine Tr.body Tryz.func33 (c:=_) rfl Tryz.ntmps33 (Nat.le_of_ble_eq_true rfl) fun R0 F=>?_
 replace h:=Gets.of h
 have H:=h
 clear h
 refine WP.seq<|rg 2 1<|al rfl trivial zc40 nofun fun b925=>as0 rfl rfl<|.fin<|WP.seq<|WP.seq<|rg 4 0<|mv0 rfl rfl<|mv0 rfl rfl<|el H fun t926 h927 H=>cll 3 [1,2,0] cal40 (dag_Dag_Has.c h927 (b0_:=b0_) (v0_0:=v0_0)) ?_
 refine un0 rfl rfl (run_not _)<|.fin<|cd H rfl (fun _ H=>?_) (fun _ H=>?_)
 ·
  refine WP.seq<|rg 3 2<|Dv.bld (qs:=[vS (⟨#[]⟩:ByteArray),vS (⟨#[]⟩:ByteArray),eq (.slice none 0 0),vS (⟨#[]⟩:ByteArray),vS (⟨#[]⟩:ByteArray),vI 0]) (css:=[]) rfl trivial Tryz.underlying40 pl40 z40 rfl trivial rfl rfl<|sx 0 rfl trivial rfl rfl cA sz40 rfl rfl rfl nofun ?_
  refine as0 rfl rfl<|.fin ?_
  cases H.out; exact rt i2 rfl () 3 [0,1,2] 1 (.cons (res_wk (res_cells rfl Tryz.underlying40 rfl c40 (mem_at 0 rfl) rfl) (wk_agg (.cons wk_id (.cons wk_id (.cons wk_nil (.cons wk_id (.cons wk_id (.cons wk_id .nil)))))))) (.cons (res_tmp rfl) .nil))
 refine WP.skip<|WP.seq<|rg 12 1024<|mv0 rfl rfl<|Dv.nilp rfl trivial rfl<|fb rfl trivial rfl fa82_1<|ld 1 rfl trivial rfl sc80 rfl rfl<|mv0 rfl rfl<|vg (mpo_opn 2 rfl) fun z929 h930=>?_
 refine Dv.mlv nilP rfl trivial rfl (mem_at 0 rfl) rfl Tryz.underlying80 (keyOk_str Tryz.underlying9) z83 (fun _=>rfl)<|gr H fun g931 H=>vg (mpo_foc h930 rfl g931 (pm 4 [1,0,2,3])) fun _ _=>?_
 refine Dv.nilA DNode.nn rfl trivial rfl (mem_at 0 rfl)<|vg (DNode.opn 0 rfl) fun g932 h933=>?_
 refine fp h933 rfl trivial rfl fa85_0<|lds 0 rfl trivial rfl sg40 rfl rfl<|el H fun t934 h935 H=>cl rfl cal42 rfl (dag_own.c h935)<|sx 3 rfl trivial rfl rfl cA sz40 rfl rfl rfl nofun ?_
 refine as0 rfl rfl<|.fin<|wg (DNode.shut (p:=((mget (zipK a0.fnodes z929) a1).getD nilP)) (m:=(mget a0.fnodes a1).getD default) g932 h933 (pm 5 [0,1,2,3,4])) fun _ _=>?_
 refine wg (mpo_unf0 h930 rfl g931 (pm 5 [0,1,2,3,4])) fun _ _=>?_
 refine wg (mpo_shut h930 rfl (pm 4 [1,0,2,3])) fun _ _=>?_
 cases H.out; exact rt i2 rfl () 3 [1,2,0] 1 (.cons (res_cells rfl Tryz.underlying40 rfl c40 (mem_at 1 rfl) rfl) (.cons (res_tmp rfl) .nil))
theorem view_View_Fits.c {a0:VView} {a1:ByteArray} {a2:ByteArray} {a3:ByteArray} {v0_0:OV} {b0_:Nat} {r:Int} (h:view_View_Fits.f a0 a1 a2 a3 = some r):Tr Tryz.prog 21 [eq (.pointer (some ⟨b0_,0,none⟩)),vS a1,vS a2,vS a3] [blk b0_ 58 [eq v0_0.1],mpo Value.string DDag.O v0_0.1 a0.fdags] (γ:=Unit) (fun _=>True) (fun g=>vI r) (fun g=>[blk b0_ 58 [eq v0_0.1],mpo Value.string DDag.O v0_0.1 a0.fdags]):=by
 unfold view_View_Fits.f at h
 refine Tr.body Tryz.func21 (c:=_) rfl Tryz.ntmps21 (Nat.le_of_ble_eq_true rfl) fun R0 F=>?_
 replace h:=Gets.of h
 have H:=h
 clear h
 refine WP.seq<|rg 1 0<|as0 rfl rfl<|.fin<|WP.seq<|rg 5 4<|mv0 rfl rfl<|mv0 rfl rfl<|el H fun t936 h937 H=>cx 2 [0,1] cal24 (view_View_room.c h937 (b0_:=b0_) (v0_0:=v0_0)) nofun fun v938 _=>?_
 refine Dv.mkc (fst:=#[v938.1]) rfl trivial rfl<|as0 rfl rfl<|.fin<|WP.seq<|rg 9 192<|mv0 rfl rfl<|mv0 rfl rfl<|vg (DDag.opn 2 rfl) fun g939 h940=>?_
 refine el H fun t941 h942 H=>Dv.callc (fst:=#[v938.1]) (B:=[blk g939.1 82 [vS t936.froom,eq g939.2.1],mpo Value.string DNode.O g939.2.1 t936.fnodes]) (F:=[blk b0_ 58 [eq v0_0.1],mpl Value.string DDag.O v0_0.1 a0.fdags a1 v938]++F) rfl trivial rfl cal33 rfl (Tr.weak (dag_Dag_Event.c h942 (b0_:=g939.1) (v0_0:=g939.2)) (.cons (wk_ptr h940) (.cons wk_id .nil))) (perm_to (L:=[blk g939.1 82 [vS t936.froom,eq g939.2.1],mpo Value.string DNode.O g939.2.1 t936.fnodes,blk b0_ 58 [eq v0_0.1],mpl Value.string DDag.O v0_0.1 a0.fdags a1 v938]) (F:=F) [0,1,2,3] rfl rfl rfl)<|mv0 rfl rfl<|ex0 rfl trivial rfl rfl<|ex0 rfl trivial rfl rfl<|al rfl trivial zc40 nofun fun b943=>sx 0 rfl trivial rfl rfl cA sz40 rfl rfl rfl nofun ?_
 refine as0 rfl rfl<|.fin<|WP.seq<|WP.block<|WP.seq<|rg 3 0<|mv0 rfl rfl<|un0 rfl rfl (run_not _)<|as0 rfl rfl<|.fin<|cd H rfl (fun _ H=>?_) (fun _ H=>?_)
 ·
  refine WP.seq<|rg 1 0<|as0 rfl rfl<|.fin<|wg (DDag.shut (p:=v938) (m:=t936) (g939.1,g939.2) h940 (pm 5 [1,2,0,3,4])) fun _ _=>?_
  refine wg (mpl_back0 (view_View_room.r h937) (pm 4 [3,0,1,2])) fun _ _=>?_
  cases H.out; exact rt i2 rfl () 3 [1,2,0] 1 (.cons (res_tmp rfl) .nil)
 refine WP.seq<|WP.seq<|rg 3 0<|mv0 rfl rfl<|bn0 rfl rfl rfl run_seq<|as0 rfl rfl<|.fin<|cd H rfl (fun _ H=>?_) (fun _ H=>?_)
 ·
  refine WP.skip<|cd H rfl (fun _ H=>?_) (fun _ H=>?_)
  ·
   refine WP.seq<|rg 1 0<|as0 rfl rfl<|.fin<|wg (DDag.shut (p:=v938) (m:=t936) (g939.1,g939.2) h940 (pm 5 [1,2,0,3,4])) fun _ _=>?_
   refine wg (mpl_back0 (view_View_room.r h937) (pm 4 [3,0,1,2])) fun _ _=>?_
   cases H.out; exact rt i2 rfl () 3 [1,2,0] 1 (.cons (res_tmp rfl) .nil)
  refine WP.skip<|WP.seq<|rg 1 0<|as0 rfl rfl<|.fin<|wg (DDag.shut (p:=v938) (m:=t936) (g939.1,g939.2) h940 (pm 5 [1,2,0,3,4])) fun _ _=>?_
  refine wg (mpl_back0 (view_View_room.r h937) (pm 4 [3,0,1,2])) fun _ _=>?_
  cases H.out; exact rt i2 rfl () 3 [1,2,0] 1 (.cons (res_tmp rfl) .nil)
 refine WP.seq<|rg 8 0<|mv0 rfl rfl<|bn0 rfl rfl rfl run_seq<|mv0 rfl rfl ?_
 cases c947:decide (a3 = (⟨#[109,97,105,110]⟩:ByteArray))
 ·
  have H:=H.cf c947
  refine sk rfl rfl<|sk rfl rfl<|sk rfl rfl<|pf0 rfl rfl rfl<|as0 rfl rfl<|.fin<|WP.cond rfl nofun (fun _=>?_)
  refine WP.seq<|rg 4 0<|mv0 rfl rfl<|mv0 rfl rfl<|bn0 rfl rfl rfl run_seq<|as0 rfl rfl<|.fin<|cd H rfl (fun _ H=>?_) (fun _ H=>?_)
  ·
   refine WP.skip<|cd H rfl (fun _ H=>?_) (fun _ H=>?_)
   ·
    refine WP.seq<|rg 1 0<|as0 rfl rfl<|.fin<|wg (DDag.shut (p:=v938) (m:=t936) (g939.1,g939.2) h940 (pm 5 [1,2,0,3,4])) fun _ _=>?_
    refine wg (mpl_back0 (view_View_room.r h937) (pm 4 [3,0,1,2])) fun _ _=>?_
    cases H.out; exact rt i2 rfl () 3 [1,2,0] 1 (.cons (res_tmp rfl) .nil)
   refine WP.skip<|WP.seq<|rg 1 0<|as0 rfl rfl<|.fin<|wg (DDag.shut (p:=v938) (m:=t936) (g939.1,g939.2) h940 (pm 5 [1,2,0,3,4])) fun _ _=>?_
   refine wg (mpl_back0 (view_View_room.r h937) (pm 4 [3,0,1,2])) fun _ _=>?_
   cases H.out; exact rt i2 rfl () 3 [1,2,0] 1 (.cons (res_tmp rfl) .nil)
  refine rg 5 0<|mv0 rfl rfl<|fb rfl trivial rfl fa40_3<|ld 0 rfl trivial rfl sc9 rfl rfl<|bn0 rfl rfl rfl run_seq<|as0 rfl rfl<|.fin<|cd H rfl (fun _ H=>?_) (fun _ H=>?_)
  ·
   refine WP.seq<|rg 1 0<|as0 rfl rfl<|.fin<|wg (DDag.shut (p:=v938) (m:=t936) (g939.1,g939.2) h940 (pm 5 [1,2,0,3,4])) fun _ _=>?_
   refine wg (mpl_back0 (view_View_room.r h937) (pm 4 [3,0,1,2])) fun _ _=>?_
   cases H.out; exact rt i2 rfl () 3 [1,2,0] 1 (.cons (res_tmp rfl) .nil)
  refine WP.skip<|WP.seq<|rg 1 0<|as0 rfl rfl<|.fin<|wg (DDag.shut (p:=v938) (m:=t936) (g939.1,g939.2) h940 (pm 5 [1,2,0,3,4])) fun _ _=>?_
  refine wg (mpl_back0 (view_View_room.r h937) (pm 4 [3,0,1,2])) fun _ _=>?_
  cases H.out; exact rt i2 rfl () 3 [1,2,0] 1 (.cons (res_tmp rfl) .nil)
 have H:=H.ct c947
 refine fb rfl (gg rfl) rfl fa40_3<|ld 0 rfl (gg rfl) rfl sc9 rfl rfl<|bng rfl rfl rfl rfl run_seq<|pt0 rfl rfl rfl<|as0 rfl rfl<|.fin<|cd H rfl (fun _ H=>?_) (fun _ H=>?_)
 ·
  refine WP.skip<|cd H rfl (fun _ H=>?_) (fun _ H=>?_)
  ·
   refine WP.seq<|rg 1 0<|as0 rfl rfl<|.fin<|wg (DDag.shut (p:=v938) (m:=t936) (g939.1,g939.2) h940 (pm 5 [1,2,0,3,4])) fun _ _=>?_
   refine wg (mpl_back0 (view_View_room.r h937) (pm 4 [3,0,1,2])) fun _ _=>?_
   cases H.out; exact rt i2 rfl () 3 [1,2,0] 1 (.cons (res_tmp rfl) .nil)
  refine WP.skip<|WP.seq<|rg 1 0<|as0 rfl rfl<|.fin<|wg (DDag.shut (p:=v938) (m:=t936) (g939.1,g939.2) h940 (pm 5 [1,2,0,3,4])) fun _ _=>?_
  refine wg (mpl_back0 (view_View_room.r h937) (pm 4 [3,0,1,2])) fun _ _=>?_
  cases H.out; exact rt i2 rfl () 3 [1,2,0] 1 (.cons (res_tmp rfl) .nil)
 refine WP.seq<|rg 4 0<|mv0 rfl rfl<|mv0 rfl rfl<|bn0 rfl rfl rfl run_seq<|as0 rfl rfl<|.fin<|cd H rfl (fun _ H=>?_) (fun _ H=>?_)
 ·
  refine WP.skip<|cd H rfl (fun _ H=>?_) (fun _ H=>?_)
  ·
   refine WP.seq<|rg 1 0<|as0 rfl rfl<|.fin<|wg (DDag.shut (p:=v938) (m:=t936) (g939.1,g939.2) h940 (pm 5 [1,2,0,3,4])) fun _ _=>?_
   refine wg (mpl_back0 (view_View_room.r h937) (pm 4 [3,0,1,2])) fun _ _=>?_
   cases H.out; exact rt i2 rfl () 3 [1,2,0] 1 (.cons (res_tmp rfl) .nil)
  refine WP.skip<|WP.seq<|rg 1 0<|as0 rfl rfl<|.fin<|wg (DDag.shut (p:=v938) (m:=t936) (g939.1,g939.2) h940 (pm 5 [1,2,0,3,4])) fun _ _=>?_
  refine wg (mpl_back0 (view_View_room.r h937) (pm 4 [3,0,1,2])) fun _ _=>?_
  cases H.out; exact rt i2 rfl () 3 [1,2,0] 1 (.cons (res_tmp rfl) .nil)
 refine rg 5 0<|mv0 rfl rfl<|fb rfl trivial rfl fa40_3<|ld 0 rfl trivial rfl sc9 rfl rfl<|bn0 rfl rfl rfl run_seq<|as0 rfl rfl<|.fin<|cd H rfl (fun _ H=>?_) (fun _ H=>?_)
 ·
  refine WP.seq<|rg 1 0<|as0 rfl rfl<|.fin<|wg (DDag.shut (p:=v938) (m:=t936) (g939.1,g939.2) h940 (pm 5 [1,2,0,3,4])) fun _ _=>?_
  refine wg (mpl_back0 (view_View_room.r h937) (pm 4 [3,0,1,2])) fun _ _=>?_
  cases H.out; exact rt i2 rfl () 3 [1,2,0] 1 (.cons (res_tmp rfl) .nil)
 refine WP.skip<|WP.seq<|rg 1 0<|as0 rfl rfl<|.fin<|wg (DDag.shut (p:=v938) (m:=t936) (g939.1,g939.2) h940 (pm 5 [1,2,0,3,4])) fun _ _=>?_
 refine wg (mpl_back0 (view_View_room.r h937) (pm 4 [3,0,1,2])) fun _ _=>?_
 cases H.out; exact rt i2 rfl () 3 [1,2,0] 1 (.cons (res_tmp rfl) .nil)
theorem w10_lives.c {k:Nat} {r:Bool} (h:w10_lives.f k = some r):Pt Tryz.prog 7 [] (vB r):=by
 unfold w10_lives.f at h
 refine pb Tryz.func7 Tryz.ntmps7 h fun R0 F H=>?_
 refine WP.seq<|rg 1 0<|as0 rfl rfl<|.fin<|WP.seq<|rg 2 1<|el H fun t957 h958 H=>cx 0 [] cal9 (view_New.c h958) nofun fun g959 _=>?_
 refine as0 rfl rfl<|.fin<|WP.seq<|WP.seq<|rg 2 0<|mv0 rfl rfl<|Dv.peq0 VView.nn rfl trivial rfl rfl Tryz.underlying23 (mem_at 0 rfl)<|.fin<|WP.cond rfl nofun (fun _=>?_)
 refine WP.skip<|WP.seq<|rg 3 4<|mv0 rfl rfl<|Dv.bld (qs:=[vS (⟨#[36,116]⟩:ByteArray),vS (⟨#[33,114,58,115]⟩:ByteArray),eq (.slice none 0 0),vS (⟨#[]⟩:ByteArray),vS (⟨#[64,97,58,115]⟩:ByteArray),vI 0]) (css:=[[vS (⟨#[36,116]⟩:ByteArray)],[vS (⟨#[33,114,58,115]⟩:ByteArray)],[vS (⟨#[64,97,58,115]⟩:ByteArray)]]) rfl trivial Tryz.underlying40 pl40 z40 rfl ⟨(cells_one (one_eq rfl)),⟨(cells_one (one_eq rfl)),⟨(cells_one (one_eq rfl)),trivial⟩⟩⟩ rfl rfl<|el H fun t961 h962 H=>cx 1 [0] cal10 (Tr.weak (view_View_Add.c h962 (p0_:=g959)) (.cons wk_id (.cons (wk_agg (.cons wk_id (.cons wk_id (.cons wk_nil (.cons wk_id (.cons wk_id (.cons wk_id .nil))))))) .nil))) nofun fun _ _=>?_
 refine .fin<|WP.seq<|rg 3 4<|mv0 rfl rfl<|Dv.bld (qs:=[vS (⟨#[36,117]⟩:ByteArray),vS (⟨#[33,114,58,115]⟩:ByteArray),eq (.slice none 0 0),vS (⟨#[36,116]⟩:ByteArray),vS (⟨#[64,97,58,115]⟩:ByteArray),vI 0]) (css:=[[vS (⟨#[36,117]⟩:ByteArray)],[vS (⟨#[33,114,58,115]⟩:ByteArray)],[vS (⟨#[64,97,58,115]⟩:ByteArray)],[vS (⟨#[36,116]⟩:ByteArray)]]) rfl trivial Tryz.underlying40 pl40 z40 rfl ⟨(cells_one (one_eq rfl)),⟨(cells_one (one_eq rfl)),⟨(cells_one (one_eq rfl)),⟨(cells_one (one_eq rfl)),trivial⟩⟩⟩⟩ rfl rfl<|el H fun t963 h964 H=>cx 1 [0] cal10 (Tr.weak (view_View_Add.c h964 (p0_:=g959)) (.cons wk_id (.cons (wk_agg (.cons wk_id (.cons wk_id (.cons wk_nil (.cons wk_id (.cons wk_id (.cons wk_id .nil))))))) .nil))) nofun fun _ _=>?_
 refine .fin<|WP.seq<|rg 24 0<|mv0 rfl rfl<|vg (VView.opn 0 rfl) fun g965 h966=>?_
 refine el H fun t967 h968 H=>cll 2 [0,1] cal21 (Tr.weak (view_View_Fits.c h968 (b0_:=g965.1) (v0_0:=g965.2)) (.cons (wk_ptr h966) (.cons wk_id (.cons wk_id (.cons wk_id .nil))))) ?_
 refine bn0 rfl rfl rfl run_eq<|mv0 rfl rfl ?_
 cases c969:(t967 == 0)
 ·
  have H:=H.cf c969
  refine sk rfl rfl<|sk rfl rfl<|sk rfl rfl<|pf0 rfl rfl rfl<|mv0 rfl rfl<|sk rfl rfl<|sk rfl rfl<|sk rfl rfl<|pf0 rfl rfl rfl<|mv0 rfl rfl<|sk rfl rfl<|sk rfl rfl<|sk rfl rfl<|pf0 rfl rfl rfl<|mv0 rfl rfl<|sk rfl rfl<|sk rfl rfl<|sk rfl rfl<|pf0 rfl rfl rfl<|as0 rfl rfl<|.fin<|wg (VView.shut (p:=g959) (m:=t963.2) (g965.1,g965.2) h966 (pm 2 [0,1])) fun _ _=>?_
  cases H.out; exact r1 i2 rfl (.cons (res_tmp rfl) .nil)
 have H:=H.ct c969
 refine mvg rfl rfl rfl<|el H fun t970 h971 H=>cll 2 [0,1] cal21 (Tr.weak (view_View_Fits.c h971 (b0_:=g965.1) (v0_0:=g965.2)) (.cons (wk_ptr h966) (.cons wk_id (.cons wk_id (.cons wk_id .nil))))) ?_
 refine bng rfl rfl rfl rfl run_eq<|pt0 rfl rfl rfl<|mv0 rfl rfl ?_
 cases c972:(t970 == 7)
 ·
  have H:=H.cf c972
  refine sk rfl rfl<|sk rfl rfl<|sk rfl rfl<|pf0 rfl rfl rfl<|mv0 rfl rfl<|sk rfl rfl<|sk rfl rfl<|sk rfl rfl<|pf0 rfl rfl rfl<|mv0 rfl rfl<|sk rfl rfl<|sk rfl rfl<|sk rfl rfl<|pf0 rfl rfl rfl<|as0 rfl rfl<|.fin<|wg (VView.shut (p:=g959) (m:=t963.2) (g965.1,g965.2) h966 (pm 2 [0,1])) fun _ _=>?_
  cases H.out; exact r1 i2 rfl (.cons (res_tmp rfl) .nil)
 have H:=H.ct c972
 refine mvg rfl rfl rfl<|el H fun t973 h974 H=>cll 2 [0,1] cal21 (Tr.weak (view_View_Fits.c h974 (b0_:=g965.1) (v0_0:=g965.2)) (.cons (wk_ptr h966) (.cons wk_id (.cons wk_id (.cons wk_id .nil))))) ?_
 refine bng rfl rfl rfl rfl run_eq<|pt0 rfl rfl rfl<|mv0 rfl rfl ?_
 cases c975:(t973 == 0)
 ·
  have H:=H.cf c975
  refine sk rfl rfl<|sk rfl rfl<|sk rfl rfl<|pf0 rfl rfl rfl<|mv0 rfl rfl<|sk rfl rfl<|sk rfl rfl<|sk rfl rfl<|pf0 rfl rfl rfl<|as0 rfl rfl<|.fin<|wg (VView.shut (p:=g959) (m:=t963.2) (g965.1,g965.2) h966 (pm 2 [0,1])) fun _ _=>?_
  cases H.out; exact r1 i2 rfl (.cons (res_tmp rfl) .nil)
 have H:=H.ct c975
 refine mvg rfl rfl rfl<|el H fun t976 h977 H=>cll 2 [0,1] cal21 (Tr.weak (view_View_Fits.c h977 (b0_:=g965.1) (v0_0:=g965.2)) (.cons (wk_ptr h966) (.cons wk_id (.cons wk_id (.cons wk_id .nil))))) ?_
 refine bng rfl rfl rfl rfl run_eq<|pt0 rfl rfl rfl<|mv0 rfl rfl ?_
 cases c978:(t976 == 0)
 ·
  have H:=H.cf c978
  refine sk rfl rfl<|sk rfl rfl<|sk rfl rfl<|pf0 rfl rfl rfl<|as0 rfl rfl<|.fin<|wg (VView.shut (p:=g959) (m:=t963.2) (g965.1,g965.2) h966 (pm 2 [0,1])) fun _ _=>?_
  cases H.out; exact r1 i2 rfl (.cons (res_tmp rfl) .nil)
 have H:=H.ct c978
 refine mvg rfl rfl rfl<|el H fun t979 h980 H=>cll 2 [0,1] cal21 (Tr.weak (view_View_Fits.c h980 (b0_:=g965.1) (v0_0:=g965.2)) (.cons (wk_ptr h966) (.cons wk_id (.cons wk_id (.cons wk_id .nil))))) ?_
 refine bng rfl rfl rfl rfl run_eq<|pt0 rfl rfl rfl<|as0 rfl rfl<|.fin<|wg (VView.shut (p:=g959) (m:=t963.2) (g965.1,g965.2) h966 (pm 2 [0,1])) fun _ _=>?_
 cases H.out; exact r1 i2 rfl (.cons (res_tmp rfl) .nil)
end Go.Proofs.YtcchplmcefamhaaGreat
