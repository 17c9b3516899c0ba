import Derived.Test.YtmmaijneehmbgaaGreatZWalks2
import Derived.Test.YtmmaijneehmbgaaGreatConQ
import Derived.Test.YtmmaijneehmbgaaGreatConA6
import Derived.Eval
set_option linter.all false
set_option maxRecDepth 10000
set_option maxHeartbeats 20000000
namespace Go.Proofs.YtmmaijneehmbgaaGreat
open Go Go.Sp
theorem r16_Passes.c {k:Nat} {a0:RView} {a1:ByteArray} {a2:Edu} {r:Bool} (h:r16_Passes.f k a0 a1 a2 = some r):Pt Tryz.prog 54 [agg (RView.enc a0),vS a1,agg (Edu.enc a2)] (vB r):=by
 unfold r16_Passes.f at h
 refine pb Tryz.func54 Tryz.ntmps54 h fun R0 F H=>?_
 refine WP.seq<|rg 3 3<|Dv.box rfl trivial rfl cA nofun fun b1725=>Dv.box rfl trivial rfl cA nofun fun b1726=>as0 rfl rfl<|.fin<|WP.seq<|rg 3 0<|lds 0 rfl trivial rfl sg32 rfl rfl<|el H fun t1727 h1728 H=>cl rfl cal86 rfl (r03_May.c h1728)<|as0 rfl rfl<|.fin<|WP.seq<|WP.seq<|rg 2 0<|mv0 rfl rfl<|un0 rfl rfl (run_not _)<|.fin<|cd H rfl (fun _ H=>?_) (fun _ H=>?_)
 ·
  refine WP.seq<|rg 1 0<|as0 rfl rfl<|.fin ?_
  cases H.out; exact r2 i2 rfl (.cons (res_tmp rfl) .nil)
 refine WP.skip<|WP.seq<|WP.seq<|rg 3 0<|fb rfl trivial rfl fa32_0<|ld 0 rfl trivial rfl sc3 rfl rfl<|bn0 rfl rfl rfl run_eq<|.fin<|cd H rfl (fun _ H=>?_) (fun _ H=>?_)
 ·
  refine WP.seq<|rg 7 8<|lds 1 rfl trivial rfl sg44 rfl rfl<|fb rfl trivial rfl fa32_2<|ld 0 rfl trivial rfl sc9 rfl rfl<|el H fun t1731 h1732 H=>cx 2 [0,1] cal88 (r10_Peers.c h1732) nofun fun g1733 _=>?_
  refine mv0 rfl rfl<|el H fun t1734 h1735 H=>cll (B:=[own strK g1733.1 t1731]) 3 [0,1,2] cal87 (Pt.lend _ (r09_Has.c h1735) (.cons (lt_own (mem_at 0 rfl)) (.cons lt_id .nil)) flat_eq) ?_
  refine as0 rfl rfl<|.fin ?_
  cases H.out; exact r3 i2 rfl (.cons (res_tmp rfl) .nil)
 refine WP.skip<|WP.seq<|rg 7 8<|lds 1 rfl trivial rfl sg44 rfl rfl<|fb rfl trivial rfl fa32_1<|ld 0 rfl trivial rfl sc9 rfl rfl<|el H fun t1736 h1737 H=>cx 2 [0,1] cal89 (r10_Servers.c h1737) nofun fun g1738 _=>?_
 refine mv0 rfl rfl<|el H fun t1739 h1740 H=>cll (B:=[own strK g1738.1 t1736]) 3 [0,1,2] cal87 (Pt.lend _ (r09_Has.c h1740) (.cons (lt_own (mem_at 0 rfl)) (.cons lt_id .nil)) flat_eq) ?_
 refine as0 rfl rfl<|.fin ?_
 cases H.out; exact r3 i2 rfl (.cons (res_tmp rfl) .nil)
theorem r16_Choose.c {k:Nat} {a0:RView} {a1:ByteArray} {a2:List Edu} {r:(List Edu)} (h:r16_Choose.f k a0 a1 a2 = some r):Pt Tryz.prog 17 [agg (RView.enc a0),vS a1,sl Edu.K a2] (sl Edu.K r):=by
 unfold r16_Choose.f at h
 refine pb Tryz.func17 Tryz.ntmps17 h fun R0 F H=>?_
 refine WP.seq<|rg 2 1<|Dv.box rfl trivial rfl cA nofun fun b1741=>as0 rfl rfl<|.fin<|WP.seq<|rg 1 0<|as0 rfl rfl<|.fin<|WP.seqn H (fun q1757:(Int×Bool×(List Edu))×OV=>q1757.1) (fun q1757:(Int×Bool×(List Edu))×OV=>[(0,agg (RView.enc a0)),(1,vS a1),(2,sl Edu.K a2),(3,eq (.pointer (some ⟨b1741,0,none⟩))),(6,eq (.slice none 0 0)),(7,eq q1757.2.1),(8,vI q1757.1.1),(13,vB q1757.1.2.1)]) (fun q1757:(Int×Bool×(List Edu))×OV=>[blk b1741 44 (RView.enc a0),own Edu.K q1757.2.1 q1757.1.2.2]++F) (fun q1757 H=>?_) (fun H=>?_)
 ·
  obtain ⟨p1742,v1743⟩:=q1757
  refine WP.seq<|rg 2 0<|mv0 rfl rfl<|as0 rfl rfl<|.fin<|WP.gh (gh_frz (E':=[(6,sl Edu.K p1742.2.2)]) (l':=[blk b1741 44 (RView.enc a0)]++F) 1 rfl (cve_cons rfl cv_eq cve_nil) (all2_app (.cons cva_id .nil) fun _=>cva_id)) (fun _ _=>?_)
  cases H.out; exact r1 i2 rfl (.cons (res_tmp rfl) .nil)
 refine WP.seq<|rg 1 0<|as0 rfl rfl<|.fin<|WP.block<|wg (st_nil Edu.K none) fun _ _=>?_
 refine wg (sg 2 [1,0] 0) fun _ _=>?_
 refine lp (fun j_ (p1756:Int×(List Edu)×OV)=>r16_Choose.l0 k a0 a1 a2 j_ p1756.1 p1756.2.1) (0,([]:List Edu),nilV) H (fun p1756=>[(0,agg (RView.enc a0)),(1,vS a1),(2,sl Edu.K a2),(3,eq (.pointer (some ⟨b1741,0,none⟩))),(6,eq (.slice none 0 0)),(7,eq p1756.2.2.1),(8,vI p1756.1)]) (fun p1756=>[blk b1741 44 (RView.enc a0),own Edu.K p1756.2.2.1 p1756.2.1]++F) ?_
 rintro j_ ⟨x1744,x1745,v1746⟩ H
 rcases j_ with _ | j1755
 ·
  exact (Gets.no H).elim
 replace H:Gets (r16_Choose.l0 k a0 a1 a2 (j1755 + 1) x1744 x1745) _:=H
 rw [r16_Choose.l0] at H
 refine WP.seq<|WP.seq<|rg 4 0<|mv0 rfl rfl<|mv0 rfl rfl<|Dv.lenl rfl trivial rfl Tryz.underlying23<|bn0 rfl rfl rfl run_lt<|.fin<|cd H rfl (fun _ H=>?_) (fun _ H=>?_)
 rotate_left
 ·
  refine WP.exit ?_
  have H:=H.out
  exact jn ((x1744,decide (x1744 < (a2.length:Int)),x1745),v1746) H
 refine WP.skip<|WP.seq<|WP.block<|WP.seq<|dg Tryz.checked.mixed 8 0<|lds 0 rfl trivial rfl sg44 rfl rfl<|mv0 rfl rfl<|mv0 rfl rfl<|mv0 rfl rfl<|gr H fun g1748 H=>Dv.ixr rfl trivial rfl rfl Tryz.underlying23 Tryz.underlying32 c32 g1748.1 g1748.2<|ldsR rfl trivial rfl sg32 rfl<|el H fun t1749 h1750 H=>cl rfl cal54 rfl (r16_Passes.c h1750)<|as0 rfl rfl<|.fin<|WP.seq<|rg 1 0<|mv0 rfl rfl<|.fin<|cd H rfl (fun _ H=>?_) (fun _ H=>?_)
 rotate_left
 ·
  exact WP.skip<|rg 3 0<|mv0 rfl rfl<|bn0 rfl rfl rfl run_add<|as0 rfl rfl<|.fin<|bk j1755 (w64 (x1744 + 1),x1745,v1746) H
 refine rg 8 64<|mv0 rfl rfl<|mv0 rfl rfl<|mv0 rfl rfl<|gr H fun g1752 H=>Dv.ixr rfl trivial rfl rfl Tryz.underlying23 Tryz.underlying32 c32 g1752.1 g1752.2<|ldsR rfl trivial rfl sg32 rfl<|Dv.lit Edu.K ([Edu.K.at a2 x1744]:List Edu) (css:=[Edu.enc (Edu.K.at a2 x1744)]) rfl trivial Tryz.underlying23 Tryz.underlying32 c32 z32 rfl (by decide) (by decide) rfl ⟨(cells_agg (Edu.K.one _)),trivial⟩ rfl rfl rfl<|gr H fun g1753 H=>ap Edu.K 1 ([Edu.K.at a2 x1744]:List Edu) src_sl Tryz.underlying23 (.inr ⟨_,Tryz.underlying23⟩) inf32 g1753 nofun fun v1754=>?_
 exact as0 rfl rfl<|.fin<|rg 3 0<|mv0 rfl rfl<|bn0 rfl rfl rfl run_add<|as0 rfl rfl<|.fin<|bk j1755 (w64 (x1744 + 1),x1745++([Edu.K.at a2 x1744]:List Edu),v1754) H
theorem r04_SameEdus.c {k:Nat} {a0:List Edu} {a1:List Edu} {r:Bool} (h:r04_SameEdus.f k a0 a1 = some r):Pt Tryz.prog 16 [sl Edu.K a0,sl Edu.K a1] (vB r):=by
 unfold r04_SameEdus.f at h
 refine pb Tryz.func16 Tryz.ntmps16 h fun R0 F H=>?_
 refine WP.seq<|rg 1 0<|as0 rfl rfl<|.fin<|WP.seq<|WP.seq<|rg 5 0<|mv0 rfl rfl<|Dv.lenl rfl trivial rfl Tryz.underlying23<|mv0 rfl rfl<|Dv.lenl rfl trivial rfl Tryz.underlying23<|bn0 rfl rfl rfl run_ne<|.fin<|cd H rfl (fun _ H=>?_) (fun _ H=>?_)
 ·
  refine WP.seq<|rg 1 0<|as0 rfl rfl<|.fin ?_
  cases H.out; exact r0 i2 rfl (.cons (res_tmp rfl) .nil)
 refine WP.skip<|WP.seqr H id (fun p1832:Int×Bool=>[(0,sl Edu.K a0),(1,sl Edu.K a1),(4,vB false),(5,vI p1832.1),(10,vB ((a0.length:Int) != (a1.length:Int))),(14,vB p1832.2)]) (fun p1832:Int×Bool=>F) (fun p1832 H=>?_) (fun H=>?_)
 ·
  refine WP.seq<|rg 1 0<|as0 rfl rfl<|.fin ?_
  cases H.out; exact r0 i2 rfl (.cons (res_tmp rfl) .nil)
 refine WP.seq<|rg 1 0<|as0 rfl rfl<|.fin<|WP.block<|wg (sg 0 [] 0) fun _ _=>?_
 refine lp (fun j_ (p1839:Int)=>r04_SameEdus.l0 k a0 a1 j_ p1839) 0 H (fun p1839=>[(0,sl Edu.K a0),(1,sl Edu.K a1),(4,vB false),(5,vI p1839),(10,vB ((a0.length:Int) != (a1.length:Int)))]) (fun p1839=>F) ?_
 rintro j_ x1833 H
 rcases j_ with _ | j1838
 ·
  exact (Gets.no H).elim
 replace H:Gets (r04_SameEdus.l0 k a0 a1 (j1838 + 1) x1833) _:=H
 rw [r04_SameEdus.l0] at H
 refine WP.seq<|WP.seq<|rg 4 0<|mv0 rfl rfl<|mv0 rfl rfl<|Dv.lenl rfl trivial rfl Tryz.underlying23<|bn0 rfl rfl rfl run_lt<|.fin<|cd H rfl (fun _ H=>?_) (fun _ H=>?_)
 rotate_left
 ·
  refine WP.exit ?_
  have H:=H.out
  exact jn (x1833,decide (x1833 < (a0.length:Int))) H
 refine WP.skip<|WP.seq<|WP.block<|WP.seq<|dg Tryz.checked.mixed 9 0<|mv0 rfl rfl<|mv0 rfl rfl<|gr H fun g1835 H=>Dv.ixr rfl trivial rfl rfl Tryz.underlying23 Tryz.underlying32 c32 g1835.1 g1835.2<|ldsR rfl trivial rfl sg32 rfl<|mv0 rfl rfl<|mv0 rfl rfl<|gr H fun g1836 H=>Dv.ixr rfl trivial rfl rfl Tryz.underlying23 Tryz.underlying32 c32 g1836.1 g1836.2<|ldsR rfl trivial rfl sg32 rfl<|Dv.nes [.int .i64 ((Edu.K.at a0 x1833).fKind),.string ((Edu.K.at a0 x1833).fRoom),.string ((Edu.K.at a0 x1833).fUser),.string ((Edu.K.at a0 x1833).fEvent),.string ((Edu.K.at a0 x1833).fThread),.bool ((Edu.K.at a0 x1833).fPrivate),.bool ((Edu.K.at a0 x1833).fOn),.int .i64 ((Edu.K.at a0 x1833).fSpan),.int .i64 ((Edu.K.at a0 x1833).fState),.int .i64 ((Edu.K.at a0 x1833).fTick),.int .i64 ((Edu.K.at a0 x1833).fStamp)] [.int .i64 ((Edu.K.at a1 x1833).fKind),.string ((Edu.K.at a1 x1833).fRoom),.string ((Edu.K.at a1 x1833).fUser),.string ((Edu.K.at a1 x1833).fEvent),.string ((Edu.K.at a1 x1833).fThread),.bool ((Edu.K.at a1 x1833).fPrivate),.bool ((Edu.K.at a1 x1833).fOn),.int .i64 ((Edu.K.at a1 x1833).fSpan),.int .i64 ((Edu.K.at a1 x1833).fState),.int .i64 ((Edu.K.at a1 x1833).fTick),.int .i64 ((Edu.K.at a1 x1833).fStamp)] rfl trivial rfl rfl rfl rfl eg32 (fun _=>equal_of 2 (by decide) (fun _=>eqt32 (Edu.K.at a0 x1833) (Edu.K.at a1 x1833)))<|.fin<|cd H rfl (fun _ H=>?_) (fun _ H=>?_)
 rotate_left
 ·
  exact WP.skip<|rg 3 0<|mv0 rfl rfl<|bn0 rfl rfl rfl run_add<|as0 rfl rfl<|.fin<|bk j1838 (w64 (x1833 + 1)) H
 refine WP.seq<|rg 1 0<|as0 rfl rfl<|.fin ?_
 have H:=H.outr
 cases H.out; exact r0 i2 rfl (.cons (res_tmp rfl) .nil)
theorem r01_ThreadOf.c {k:Nat} {a0:Int} {r:ByteArray} (h:r01_ThreadOf.f k a0 = some r):Pt Tryz.prog 70 [vI a0] (vS r):=by
 unfold r01_ThreadOf.f at h
 refine pb Tryz.func70 Tryz.ntmps70 h fun R0 F H=>?_
 refine WP.seq<|rg 1 0<|as0 rfl rfl<|.fin<|WP.seq<|rg 3 0<|mv0 rfl rfl<|el H fun t1853 h1854 H=>cl rfl cal12 rfl (r01_Around.c h1854)<|as0 rfl rfl<|.fin<|WP.seq<|WP.seq<|rg 2 0<|mv0 rfl rfl<|bn0 rfl rfl rfl run_eq<|.fin<|cd H rfl (fun _ H=>?_) (fun _ H=>?_)
 ·
  refine WP.seq<|rg 1 0<|as0 rfl rfl<|.fin ?_
  cases H.out; exact r0 i2 rfl (.cons (res_tmp rfl) .nil)
 refine WP.skip<|WP.seq<|WP.seq<|rg 2 0<|mv0 rfl rfl<|bn0 rfl rfl rfl run_eq<|.fin<|cd H rfl (fun _ H=>?_) (fun _ H=>?_)
 ·
  refine WP.seq<|rg 1 0<|as0 rfl rfl<|.fin ?_
  cases H.out; exact r0 i2 rfl (.cons (res_tmp rfl) .nil)
 refine WP.skip<|WP.seq<|rg 3 0<|mv0 rfl rfl<|el H fun t1857 h1858 H=>cl rfl cal63 rfl (r01_EventOf.c h1858)<|as0 rfl rfl<|.fin ?_
 cases H.out; exact r0 i2 rfl (.cons (res_tmp rfl) .nil)
theorem r03_Good.c {k:Nat} {a0:Edu} {r:Edu} (h:r03_Good.f k a0 = some r):Pt Tryz.prog 38 [agg (Edu.enc a0)] (agg (Edu.enc r)):=by
 unfold r03_Good.f at h
 refine pb Tryz.func38 Tryz.ntmps38 h fun R0 F H=>?_
 refine WP.seq<|rg 2 3<|Dv.box rfl trivial rfl cA nofun fun b1859=>al rfl trivial zc32 nofun fun b1860=>.fin<|WP.seq<|dg Tryz.checked.mixed 16 49152<|fb rfl trivial rfl fa32_0<|ld 1 rfl trivial rfl sc3 rfl rfl<|el H fun t1861 h1862 H=>cl rfl cal12 rfl (r01_Around.c h1862)<|bn0 rfl rfl rfl run_add<|fb rfl trivial rfl fa32_8<|ld 1 rfl trivial rfl sc3 rfl rfl<|el H fun t1863 h1864 H=>cl rfl cal27 rfl (r01_UserOf.c h1864)<|fb rfl trivial rfl fa32_9<|ld 1 rfl trivial rfl sc3 rfl rfl<|el H fun t1865 h1866 H=>cl rfl cal12 rfl (r01_Around.c h1866)<|fb rfl trivial rfl fa32_10<|ld 1 rfl trivial rfl sc3 rfl rfl<|el H fun t1867 h1868 H=>cl rfl cal12 rfl (r01_Around.c h1868)<|Dv.bld (qs:=[vI (w64 (1 + t1861)),vS (⟨#[]⟩:ByteArray),vS t1863,vS (⟨#[]⟩:ByteArray),vS (⟨#[]⟩:ByteArray),vB false,vB false,vI 0,vI 0,vI t1865,vI t1867]) (css:=[[vI (w64 (1 + t1861))],[vS t1863],[vI t1865],[vI t1867]]) rfl trivial Tryz.underlying32 pl32 z32 rfl ⟨(cells_one (one_eq rfl)),⟨(cells_one (one_eq rfl)),⟨(cells_one (one_eq rfl)),⟨(cells_one (one_eq rfl)),trivial⟩⟩⟩⟩ rfl rfl<|al rfl trivial zc32 (fun _=>(pend_in (fun _=>trivial) (pend_in (fun _=>trivial) (pend_in (fun _=>(mem_at 2 rfl)) (pend_in (fun _=>trivial) (pend_in (fun _=>trivial) (pend_in (fun _=>(mem_at 2 rfl)) (pend_in (fun _=>trivial) (pend_in (fun _=>trivial) (pend_in (fun _=>(mem_at 2 rfl)) (pend_in (fun _=>trivial) (pend_in (fun _=>trivial) (pend_in (fun _=>trivial) (pend_in (fun _=>(mem_at 2 rfl)) (pend_in (fun _=>trivial) pend_nil))))))))))))))) fun b1869=>sx 0 rfl trivial rfl rfl cA sz32 rfl rfl rfl pB ?_
 refine .fin<|WP.seq<|WP.seq<|rg 2 0<|fb rfl trivial rfl fa32_0<|ld 0 rfl trivial rfl sc3 rfl rfl<|.fin<|WP.block<|WP.seq<|rg 2 0<|bn0 rfl rfl rfl run_eq<|as0 rfl rfl<|.fin<|cd H rfl (fun _ H=>?_) (fun _ H=>?_)
 ·
  refine WP.seq<|rg 5 16<|fb rfl trivial rfl fa32_7<|ld 2 rfl trivial rfl sc3 rfl rfl<|el H fun t1871 h1872 H=>cl rfl cal26 rfl (r01_RoomOf.c h1872)<|fb rfl trivial rfl fa32_1<|sx 0 rfl trivial rfl rfl cE sz9 rfl rfl rfl nofun ?_
  refine .fin<|WP.seq<|dg Tryz.checked.mixed 10 512<|fb rfl trivial rfl fa32_3<|ld 2 rfl trivial rfl sc9 rfl rfl<|Dv.lens rfl trivial rfl Tryz.underlying9<|fb rfl trivial rfl fa32_9<|ld 2 rfl trivial rfl sc3 rfl rfl<|el H fun t1873 h1874 H=>cl rfl cal12 rfl (r01_Around.c h1874)<|bn0 rfl rfl rfl run_add<|el H fun t1875 h1876 H=>cl rfl cal63 rfl (r01_EventOf.c h1876)<|fb rfl trivial rfl fa32_3<|sx 0 rfl trivial rfl rfl cE sz9 rfl rfl rfl pB ?_
  refine .fin<|WP.seq<|rg 6 32<|fb rfl trivial rfl fa32_4<|ld 2 rfl trivial rfl sc9 rfl rfl<|Dv.lens rfl trivial rfl Tryz.underlying9<|el H fun t1877 h1878 H=>cl rfl cal70 rfl (r01_ThreadOf.c h1878)<|fb rfl trivial rfl fa32_4<|sx 0 rfl trivial rfl rfl cE sz9 rfl rfl rfl nofun ?_
  refine .fin<|rg 4 8<|fb rfl trivial rfl fa32_5<|ld 2 rfl trivial rfl sc4 rfl rfl<|fb rfl trivial rfl fa32_5<|sx 0 rfl trivial rfl rfl cE sz4 rfl rfl rfl nofun ?_
  refine .fin<|WP.seq<|rg 2 2<|lds 0 rfl trivial rfl sg32 rfl rfl<|sx 1 rfl trivial rfl rfl cA sz32 rfl rfl rfl nofun ?_
  refine .fin ?_
  cases H.out; exact r3 i2 rfl (.cons (res_cells rfl Tryz.underlying32 rfl c32 (mem_at 1 rfl) rfl) .nil)
 refine WP.seq<|rg 2 0<|bn0 rfl rfl rfl run_eq<|as0 rfl rfl<|.fin<|cd H rfl (fun _ H=>?_) (fun _ H=>?_)
 rotate_left
 ·
  refine rg 5 16<|fb rfl trivial rfl fa32_7<|ld 2 rfl trivial rfl sc3 rfl rfl<|el H fun t1885 h1886 H=>cl rfl cal12 rfl (r01_Around.c h1886)<|fb rfl trivial rfl fa32_8<|sx 0 rfl trivial rfl rfl cE sz3 rfl rfl rfl nofun ?_
  refine .fin<|WP.seq<|rg 2 2<|lds 0 rfl trivial rfl sg32 rfl rfl<|sx 1 rfl trivial rfl rfl cA sz32 rfl rfl rfl nofun ?_
  refine .fin ?_
  cases H.out; exact r3 i2 rfl (.cons (res_cells rfl Tryz.underlying32 rfl c32 (mem_at 1 rfl) rfl) .nil)
 refine WP.seq<|rg 5 16<|fb rfl trivial rfl fa32_7<|ld 2 rfl trivial rfl sc3 rfl rfl<|el H fun t1880 h1881 H=>cl rfl cal26 rfl (r01_RoomOf.c h1881)<|fb rfl trivial rfl fa32_1<|sx 0 rfl trivial rfl rfl cE sz9 rfl rfl rfl nofun ?_
 refine .fin<|WP.seq<|rg 4 8<|fb rfl trivial rfl fa32_6<|ld 2 rfl trivial rfl sc4 rfl rfl<|fb rfl trivial rfl fa32_6<|sx 0 rfl trivial rfl rfl cE sz4 rfl rfl rfl nofun ?_
 refine .fin<|WP.seq<|rg 2 0<|fb rfl trivial rfl fa32_6<|ld 2 rfl trivial rfl sc4 rfl rfl<|.fin<|cd H rfl (fun _ H=>?_) (fun _ H=>?_)
 rotate_left
 ·
  refine WP.skip<|WP.seq<|rg 2 2<|lds 0 rfl trivial rfl sg32 rfl rfl<|sx 1 rfl trivial rfl rfl cA sz32 rfl rfl rfl nofun ?_
  refine .fin ?_
  cases H.out; exact r3 i2 rfl (.cons (res_cells rfl Tryz.underlying32 rfl c32 (mem_at 1 rfl) rfl) .nil)
 refine rg 6 32<|fb rfl trivial rfl fa32_7<|ld 2 rfl trivial rfl sc3 rfl rfl<|el H fun t1883 h1884 H=>cl rfl cal12 rfl (r01_Around.c h1884)<|bn0 rfl rfl rfl run_add<|fb rfl trivial rfl fa32_7<|sx 0 rfl trivial rfl rfl cE sz3 rfl rfl rfl nofun ?_
 refine .fin<|WP.seq<|rg 2 2<|lds 0 rfl trivial rfl sg32 rfl rfl<|sx 1 rfl trivial rfl rfl cA sz32 rfl rfl rfl nofun ?_
 refine .fin ?_
 cases H.out; exact r3 i2 rfl (.cons (res_cells rfl Tryz.underlying32 rfl c32 (mem_at 1 rfl) rfl) .nil)
theorem r03_Public.c {k:Nat} {a0:Edu} {r:Edu} (h:r03_Public.f k a0 = some r):Pt Tryz.prog 14 [agg (Edu.enc a0)] (agg (Edu.enc r)):=by
 unfold r03_Public.f at h
 refine pb Tryz.func14 Tryz.ntmps14 h fun R0 F H=>?_
 refine WP.seq<|rg 2 3<|Dv.box rfl trivial rfl cA nofun fun b2345=>al rfl trivial zc32 nofun fun b2346=>.fin<|WP.seq<|rg 4 12<|lds 1 rfl trivial rfl sg32 rfl rfl<|el H fun t2347 h2348 H=>cl rfl cal38 rfl (r03_Good.c h2348)<|al rfl trivial zc32 nofun fun b2349=>sx 0 rfl trivial rfl rfl cA sz32 rfl rfl rfl nofun ?_
 refine .fin<|WP.seq<|rg 2 2<|fb rfl trivial rfl fa32_5<|sx 0 rfl trivial rfl rfl cE sz4 rfl rfl rfl nofun ?_
 refine .fin<|WP.seq<|rg 2 2<|lds 0 rfl trivial rfl sg32 rfl rfl<|sx 1 rfl trivial rfl rfl cA sz32 rfl rfl rfl nofun ?_
 refine .fin ?_
 cases H.out; exact r3 i2 rfl (.cons (res_cells rfl Tryz.underlying32 rfl c32 (mem_at 1 rfl) rfl) .nil)
end Go.Proofs.YtmmaijneehmbgaaGreat
