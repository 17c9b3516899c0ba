import Derived.Test.YtelcbdmigiacpaaGreatZWalks3
set_option linter.all false
set_option maxRecDepth 10000
set_option maxHeartbeats 20000000
namespace Go.Proofs.YtelcbdmigiacpaaGreat
open Go Go.Sp
theorem w22_ServerNews.c {k:Nat} {a0:ByteArray} {a1:Int} {a2:Int} {r:Bool} (h:w22_ServerNews.f k a0 a1 a2 = some r):Tr Tryz.prog 3 [vS a0,vI a1,vI a2] [lax] (γ:=Unit) (fun _=>True) (fun g=>vB r) (fun g=>[lax]):=by
 unfold w22_ServerNews.f at h
 refine tb Tryz.func3 Tryz.ntmps3 h fun R0 F H=>?_
 refine WP.seq<|rg 1 0<|as0 rfl rfl<|.fin<|WP.seq<|rg 6 0<|mv0 rfl rfl<|el H fun t1971 h1972 H=>cl rfl cal5 rfl (r01_Few.c h1972)<|mv0 rfl rfl<|el H fun t1973 h1974 H=>cl rfl cal5 rfl (r01_Few.c h1974)<|Dv.lit strK ([t1971,(⟨#[115,49]⟩:ByteArray),(⟨#[115,49]⟩:ByteArray),t1973]:List ByteArray) (css:=[[vS t1971],[vS (⟨#[115,49]⟩:ByteArray)],[vS (⟨#[115,49]⟩:ByteArray)],[vS t1973]]) rfl trivial Tryz.underlying23 Tryz.underlying9 c9 z9 rfl (by decide) (by decide) rfl ⟨(cells_one (one_eq rfl)),⟨(cells_one (one_eq rfl)),⟨(cells_one (one_eq rfl)),⟨(cells_one (one_eq rfl)),trivial⟩⟩⟩⟩ rfl rfl rfl<|as0 rfl rfl<|.fin<|WP.seq<|rg 4 0<|mv0 rfl rfl<|mv0 rfl rfl<|Dv.lit (intK .i64) ([a1,a1,0,0]:List Int) (css:=[[vI a1],[vI a1],[vI 0],[vI 0]]) rfl trivial Tryz.underlying24 Tryz.underlying3 c3 z3 rfl (by decide) (by decide) rfl ⟨(cells_one (one_eq rfl)),⟨(cells_one (one_eq rfl)),⟨(cells_one (one_eq rfl)),⟨(cells_one (one_eq rfl)),trivial⟩⟩⟩⟩ rfl rfl rfl<|as0 rfl rfl<|.fin<|WP.seq<|rg 4 0<|mv0 rfl rfl<|mv0 rfl rfl<|Dv.lit (intK .i64) ([a2,0,a2,0]:List Int) (css:=[[vI a2],[vI 0],[vI a2],[vI 0]]) rfl trivial Tryz.underlying24 Tryz.underlying3 c3 z3 rfl (by decide) (by decide) rfl ⟨(cells_one (one_eq rfl)),⟨(cells_one (one_eq rfl)),⟨(cells_one (one_eq rfl)),⟨(cells_one (one_eq rfl)),trivial⟩⟩⟩⟩ rfl rfl rfl<|as0 rfl rfl<|.fin<|WP.seqr H id (fun p1975:Int×Bool=>[]) (fun p1975:Int×Bool=>[lax]++F) (fun p1975 H=>?_) (fun H=>?_)
 ·
  refine WP.seq<|rg 2 0<|el H fun t1976 h1977 H=>cll 1 [0] cal13 (w22_lives.c h1977) ?_
  refine as0 rfl rfl<|.fin ?_
  cases H.out; exact rt i2 rfl () 1 [0] 0 (.cons (res_tmp rfl) .nil)
 refine WP.seq<|rg 1 0<|as0 rfl rfl<|.fin<|WP.block<|wg (sg 1 [0] 0) fun _ _=>?_
 refine lp (fun j_ (p2163:Int)=>w22_ServerNews.l0 k a1 a2 t1971 t1973 j_ p2163) 0 H (fun p2163=>[(7,sl strK ([t1971,(⟨#[115,49]⟩:ByteArray),(⟨#[115,49]⟩:ByteArray),t1973]:List ByteArray)),(8,sl (intK .i64) ([a1,a1,0,0]:List Int)),(9,sl (intK .i64) ([a2,0,a2,0]:List Int)),(10,vI p2163)]) (fun p2163=>[lax]++F) ?_
 rintro j_ x1978 H
 rcases j_ with _ | j2162
 ·
  exact (Gets.no H).elim
 try dsimp only at H
 rw [w22_ServerNews.l0] at H
 refine WP.seq<|WP.seq<|rg 2 0<|mv0 rfl rfl<|bn0 rfl rfl rfl run_lt<|.fin<|cd H rfl (fun _ H=>?_) (fun _ H=>?_)
 rotate_left
 ·
  refine WP.exit ?_
  have H:=H.out
  exact jn (x1978,decide (x1978 < 4)) H
 refine WP.skip<|WP.seq<|WP.block<|WP.seq<|dg Tryz.checked.mixed 18 4096<|mv0 rfl rfl<|mv0 rfl rfl<|gr H fun g1980 H=>Dv.ixr rfl trivial rfl rfl Tryz.underlying23 Tryz.underlying9 c9 g1980.1 g1980.2<|ldR rfl trivial rfl sc9 rfl<|mv0 rfl rfl<|mv0 rfl rfl<|gr H fun g1981 H=>Dv.ixr rfl trivial rfl rfl Tryz.underlying24 Tryz.underlying3 c3 g1981.1 g1981.2<|ldR rfl trivial rfl sc3 rfl<|mv0 rfl rfl<|mv0 rfl rfl<|gr H fun g1982 H=>Dv.ixr rfl trivial rfl rfl Tryz.underlying24 Tryz.underlying3 c3 g1982.1 g1982.2<|ldR rfl trivial rfl sc3 rfl<|el H fun t1983 h1984 H=>cx 1 [0] cal6 (server_New.c h1984) pC fun g1985 _=>?_
 refine mv0 rfl rfl<|ex0 rfl trivial rfl rfl<|ex0 rfl trivial rfl rfl<|as0 rfl rfl<|as0 rfl rfl<|.fin<|WP.seq<|rg 6 0<|mv0 rfl rfl<|mv0 rfl rfl<|gr H fun g1986 H=>Dv.ixr rfl trivial rfl rfl Tryz.underlying23 Tryz.underlying9 c9 g1986.1 g1986.2<|ldR rfl trivial rfl sc9 rfl<|el H fun t1987 h1988 H=>cl rfl cal7 rfl (r01_Server.c h1988)<|as0 rfl rfl<|.fin<|WP.seq<|rg 30 0<|mv0 rfl rfl<|mv0 rfl rfl ?_
 rcases bem t1987 with c1989 | c1989
 ·
  have H:=H.cf c1989
  refine Dv.gh (gh_sh 50 c1989 rfl) (fun _ _=>?_)
  refine Dv.gh (gh_sh 13 c1989 rfl) (fun _ _=>?_)
  refine Dv.gh (gh_sh 51 c1989 rfl) (fun _ _=>?_)
  refine Dv.gh (gh_sh 52 c1989 rfl) (fun _ _=>?_)
  refine sk rfl rfl<|sk rfl rfl<|sk rfl rfl<|sk rfl rfl<|sk rfl rfl<|pf0 rfl rfl rfl<|mv0 rfl rfl<|sk rfl rfl<|sk rfl rfl<|sk rfl rfl<|sk rfl rfl<|sk rfl rfl<|pf0 rfl rfl rfl<|mv0 rfl rfl<|sk rfl rfl<|sk rfl rfl<|sk rfl rfl<|sk rfl rfl<|sk rfl rfl<|pf0 rfl rfl rfl<|mv0 rfl rfl<|sk rfl rfl<|sk rfl rfl<|sk rfl rfl<|sk rfl rfl<|sk rfl rfl<|pf0 rfl rfl rfl<|as0 rfl rfl<|.fin<|WP.seq<|WP.seq<|rg 18 0<|mv0 rfl rfl<|Dv.one0 (fun _=>SSelTicStaAllComSen.nn) rfl trivial rfl rfl Tryz.underlying25 (mem_at 0 rfl)<|mv0 rfl rfl<|bn0 rfl rfl rfl (run_bne Tryz.underlying4)<|mv0 rfl rfl ?_
  rcases bem ((!t1983.1.isNone) != false) with c2134 | c2134
  rotate_left
  ·
   have H:=H.ct c2134
   refine Dv.gh (gh_sh 83 c2134 rfl) (fun _ _=>?_)
   refine Dv.gh (gh_sh 84 c2134 rfl) (fun _ _=>?_)
   refine sk rfl rfl<|sk rfl rfl<|sk rfl rfl<|sk rfl rfl<|pt0 rfl rfl rfl<|mv0 rfl rfl<|sk rfl rfl<|sk rfl rfl<|sk rfl rfl<|sku rfl rfl<|sku rfl rfl<|sk rfl rfl<|pt0 rfl rfl rfl<|.fin<|WP.cond rfl (fun _=>?_) nofun
   refine WP.seq<|rg 1 0<|as0 rfl rfl<|.fin ?_
   have H:=H.outr
   cases H.out; exact rt i2 rfl () 2 [0,1] 1 (.cons (res_tmp rfl) .nil)
  have H:=H.cf c2134
  refine Dv.gh (gh_sh 83 c2134 rfl) (fun _ _=>?_)
  refine Dv.gh (gh_sh 84 c2134 rfl) (fun _ _=>?_)
  refine mvg rfl rfl rfl<|bng rfl rfl rfl rfl run_eq<|mvg rfl rfl rfl<|bng rfl rfl rfl rfl (run_bne Tryz.underlying4)<|pf0 rfl rfl rfl<|mv0 rfl rfl ?_
  rcases bem ((t1983.2 == 0) != false) with c2136 | c2136
  rotate_left
  ·
   have H:=H.ct c2136
   refine Dv.gh (gh_sh 88 c2136 rfl) (fun _ _=>?_)
   refine Dv.gh (gh_sh 89 c2136 rfl) (fun _ _=>?_)
   refine Dv.gh (gh_sh 90 c2136 rfl) (fun _ _=>?_)
   refine sk rfl rfl<|sk rfl rfl<|sk rfl rfl<|sku rfl rfl<|sku rfl rfl<|sk rfl rfl<|pt0 rfl rfl rfl<|.fin<|WP.cond rfl (fun _=>?_) nofun
   refine WP.seq<|rg 1 0<|as0 rfl rfl<|.fin ?_
   have H:=H.outr
   cases H.out; exact rt i2 rfl () 2 [0,1] 1 (.cons (res_tmp rfl) .nil)
  have H:=H.cf c2136
  refine Dv.gh (gh_sh 88 c2136 rfl) (fun _ _=>?_)
  refine Dv.gh (gh_sh 89 c2136 rfl) (fun _ _=>?_)
  refine Dv.gh (gh_sh 90 c2136 rfl) (fun _ _=>?_)
  refine mvg rfl rfl rfl<|ung rfl rfl rfl (run_not _)<|mvg rfl rfl rfl<|mvg rfl rfl rfl<|bng rfl rfl rfl rfl run_ne<|ptg rfl rfl rfl rfl<|pf0 rfl rfl rfl<|.fin<|cd H rfl (fun _ H=>?_) (fun _ H=>?_)
  ·
   refine WP.seq<|rg 1 0<|as0 rfl rfl<|.fin ?_
   have H:=H.outr
   cases H.out; exact rt i2 rfl () 2 [0,1] 1 (.cons (res_tmp rfl) .nil)
  refine WP.skip<|WP.seq<|WP.seq<|rg 2 0<|mv0 rfl rfl<|Dv.oeq0 (fun _=>SSelTicStaAllComSen.nn) rfl trivial rfl rfl Tryz.underlying25 (mem_at 0 rfl)<|.fin<|cd H rfl (fun _ H=>?_) (fun c2139 H=>?_)
  ·
   refine WP.exit<|rg 3 0<|mv0 rfl rfl<|bn0 rfl rfl rfl run_add<|as0 rfl rfl<|.fin<|ng (sg 2 [0,1] 1) fun _ _=>?_
   exact bk j2162 (w64 (x1978 + 1)) H
  refine wg (opt_some 0 rfl c2139) fun _ _=>?_
  refine WP.skip<|WP.seq<|dgo Tryz.checked.mixed [0,2,3,4,5,1,6,7,8,10,11,12,13,9,14,15,16,17,19,20,21,22,18,23,24,25,26,27,28,29,30,31,32,33,34] [1,9,18,27,32]<|mv0 rfl rfl<|mv0 rfl rfl<|mv0 rfl rfl<|gr H fun g2140 H=>Dv.ixr rfl trivial rfl rfl Tryz.underlying23 Tryz.underlying9 c9 g2140.1 g2140.2<|ldR rfl trivial rfl sc9 rfl<|el H fun t2141 h2142 H=>Dv.callx (pre:=[SSelTicStaAllComSen.O g1985 (t1983.1.getD default)]) (F:=[lax]++F) (fun _:Unit=>[SSelTicStaAllComSen.O g1985 (t1983.1.getD default),lax]++F) rfl trivial cal8 rfl (server_Server_Self.c h2142 (p0_:=g1985)) (perm_to (L:=[SSelTicStaAllComSen.O g1985 (t1983.1.getD default),lax]) (F:=F) [0,1] rfl rfl rfl) rfl (fun _=>pendc (pend_in (fun _=>trivial) (pend_in (fun _=>trivial) (pend_in (fun _=>trivial) (pend_in (fun _=>trivial) (pend_by (by kernel_rfl) pend_nil)))))) (fun _ _=>?_)
  refine bn0 rfl rfl rfl run_sne<|mv0 rfl rfl ?_
  cases c2143:!decide (t2141 = (strK.at ([t1971,(⟨#[115,49]⟩:ByteArray),(⟨#[115,49]⟩:ByteArray),t1973]:List ByteArray) x1978))
  rotate_left
  ·
   have H:=H.ct c2143
   refine sk rfl rfl<|sk rfl rfl<|sk rfl rfl<|sk rfl rfl<|sk rfl rfl<|Dv.skipb rfl ⟨_,_,rfl,rfl,.inl rfl⟩ (fun _=>(pend_in (fun _=>trivial) (pend_in (fun _=>trivial) (pend_in (fun _=>trivial) (pend_in (fun _=>trivial) (pend_by (by kernel_rfl) (pend_by (by kernel_rfl) (pend_by (by kernel_rfl) (pend_by (by kernel_rfl) (pend_by (by kernel_rfl) (pend_by (by kernel_rfl) (pend_by (by kernel_rfl) (pend_by (by kernel_rfl) pend_nil)))))))))))))<|sk rfl rfl<|pt0 rfl rfl rfl<|mv0 rfl rfl<|sk rfl rfl<|sk rfl rfl<|sk rfl rfl<|sk rfl rfl<|sk rfl rfl<|Dv.skipb rfl ⟨_,_,rfl,rfl,.inl rfl⟩ (fun _=>(pend_in (fun _=>trivial) (pend_in (fun _=>trivial) (pend_in (fun _=>trivial) (pend_in (fun _=>trivial) (pend_by (by kernel_rfl) (pend_by (by kernel_rfl) (pend_by (by kernel_rfl) (pend_by (by kernel_rfl) (pend_by (by kernel_rfl) (pend_by (by kernel_rfl) (pend_by (by kernel_rfl) (pend_by (by kernel_rfl) (pend_by (by kernel_rfl) (pend_by (by kernel_rfl) (pend_by (by kernel_rfl) (pend_by (by kernel_rfl) (pend_by (by kernel_rfl) (pend_by (by kernel_rfl) (pend_by (by kernel_rfl) (pend_by (by kernel_rfl) pend_nil)))))))))))))))))))))<|sk rfl rfl<|pt0 rfl rfl rfl<|mv0 rfl rfl<|sk rfl rfl<|Dv.skipb rfl ⟨_,_,rfl,rfl,.inl rfl⟩ (fun _=>pend_bits (by kernel_rfl))<|sk rfl rfl<|pt0 rfl rfl rfl<|mv0 rfl rfl<|sk rfl rfl<|Dv.skipb rfl ⟨_,_,rfl,rfl,.inl rfl⟩ (fun _=>pend_bits (by kernel_rfl))<|sk rfl rfl<|pt0 rfl rfl rfl<|.fin<|WP.cond rfl (fun _=>?_) nofun
   refine WP.seq<|rg 1 0<|as0 rfl rfl<|.fin ?_
   have H:=H.outr
   cases H.out; exact rt i2 rfl () 2 [0,1] 1 (.cons (res_tmp rfl) .nil)
  have H:=H.cf c2143
  refine mvg rfl rfl rfl<|mvg rfl rfl rfl<|mvg rfl rfl rfl<|gr H fun g2145 H=>Dv.ixr rfl (gg rfl) rfl rfl Tryz.underlying24 Tryz.underlying3 c3 g2145.1 g2145.2<|ldR rfl (gg rfl) rfl sc3 rfl<|el H fun t2146 h2147 H=>Dv.callx (pre:=[SSelTicStaAllComSen.O g1985 (t1983.1.getD default)]) (F:=[lax]++F) (fun _:Unit=>[SSelTicStaAllComSen.O g1985 (t1983.1.getD default),lax]++F) rfl (gg rfl) cal9 rfl (server_Server_Tick.c h2147 (p0_:=g1985)) (perm_to (L:=[SSelTicStaAllComSen.O g1985 (t1983.1.getD default),lax]) (F:=F) [0,1] rfl rfl rfl) rfl (fun _=>pendc (pend_in (fun _=>trivial) (pend_in (fun _=>trivial) (pend_in (fun _=>trivial) (pend_in (fun _=>trivial) (pend_by (by kernel_rfl) (pend_by (by kernel_rfl) (pend_by (by kernel_rfl) (pend_by (by kernel_rfl) (pend_by (by kernel_rfl) (pend_by (by kernel_rfl) (pend_by (by kernel_rfl) (pend_by (by kernel_rfl) pend_nil))))))))))))) (fun _ _=>?_)
  refine bng rfl rfl rfl rfl run_ne<|pf0 rfl rfl rfl<|mv0 rfl rfl ?_
  cases c2148:(t2146 != ((intK .i64).at ([a1,a1,0,0]:List Int) x1978))
  rotate_left
  ·
   have H:=H.ct c2148
   refine sk rfl rfl<|sk rfl rfl<|sk rfl rfl<|sk rfl rfl<|sk rfl rfl<|Dv.skipb rfl ⟨_,_,rfl,rfl,.inl rfl⟩ (fun _=>(pend_in (fun _=>trivial) (pend_in (fun _=>trivial) (pend_in (fun _=>trivial) (pend_in (fun _=>trivial) (pend_by (by kernel_rfl) (pend_by (by kernel_rfl) (pend_by (by kernel_rfl) (pend_by (by kernel_rfl) (pend_by (by kernel_rfl) (pend_by (by kernel_rfl) (pend_by (by kernel_rfl) (pend_by (by kernel_rfl) (pend_by (by kernel_rfl) (pend_by (by kernel_rfl) (pend_by (by kernel_rfl) (pend_by (by kernel_rfl) (pend_by (by kernel_rfl) (pend_by (by kernel_rfl) (pend_by (by kernel_rfl) (pend_by (by kernel_rfl) pend_nil)))))))))))))))))))))<|sk rfl rfl<|pt0 rfl rfl rfl<|mv0 rfl rfl<|sk rfl rfl<|Dv.skipb rfl ⟨_,_,rfl,rfl,.inl rfl⟩ (fun _=>pend_bits (by kernel_rfl))<|sk rfl rfl<|pt0 rfl rfl rfl<|mv0 rfl rfl<|sk rfl rfl<|Dv.skipb rfl ⟨_,_,rfl,rfl,.inl rfl⟩ (fun _=>pend_bits (by kernel_rfl))<|sk rfl rfl<|pt0 rfl rfl rfl<|.fin<|WP.cond rfl (fun _=>?_) nofun
   refine WP.seq<|rg 1 0<|as0 rfl rfl<|.fin ?_
   have H:=H.outr
   cases H.out; exact rt i2 rfl () 2 [0,1] 1 (.cons (res_tmp rfl) .nil)
  have H:=H.cf c2148
  refine mvg rfl rfl rfl<|mvg rfl rfl rfl<|mvg rfl rfl rfl<|gr H fun g2150 H=>Dv.ixr rfl (gg rfl) rfl rfl Tryz.underlying24 Tryz.underlying3 c3 g2150.1 g2150.2<|ldR rfl (gg rfl) rfl sc3 rfl<|el H fun t2151 h2152 H=>Dv.callx (pre:=[SSelTicStaAllComSen.O g1985 (t1983.1.getD default)]) (F:=[lax]++F) (fun _:Unit=>[SSelTicStaAllComSen.O g1985 (t1983.1.getD default),lax]++F) rfl (gg rfl) cal10 rfl (server_Server_Pos.c h2152 (p0_:=g1985)) (perm_to (L:=[SSelTicStaAllComSen.O g1985 (t1983.1.getD default),lax]) (F:=F) [0,1] rfl rfl rfl) rfl (fun _=>pendc (pend_in (fun _=>trivial) (pend_in (fun _=>trivial) (pend_in (fun _=>trivial) (pend_in (fun _=>trivial) (pend_by (by kernel_rfl) (pend_by (by kernel_rfl) (pend_by (by kernel_rfl) (pend_by (by kernel_rfl) (pend_by (by kernel_rfl) (pend_by (by kernel_rfl) (pend_by (by kernel_rfl) (pend_by (by kernel_rfl) (pend_by (by kernel_rfl) (pend_by (by kernel_rfl) (pend_by (by kernel_rfl) (pend_by (by kernel_rfl) (pend_by (by kernel_rfl) (pend_by (by kernel_rfl) (pend_by (by kernel_rfl) (pend_by (by kernel_rfl) pend_nil))))))))))))))))))))) (fun _ _=>?_)
  refine bng rfl rfl rfl rfl run_ne<|pf0 rfl rfl rfl<|mv0 rfl rfl ?_
  cases c2153:(t2151 != ((intK .i64).at ([a2,0,a2,0]:List Int) x1978))
  rotate_left
  ·
   have H:=H.ct c2153
   refine sk rfl rfl<|Dv.skipb rfl ⟨_,_,rfl,rfl,.inl rfl⟩ (fun _=>pend_bits (by kernel_rfl))<|sk rfl rfl<|pt0 rfl rfl rfl<|mv0 rfl rfl<|sk rfl rfl<|Dv.skipb rfl ⟨_,_,rfl,rfl,.inl rfl⟩ (fun _=>pend_bits (by kernel_rfl))<|sk rfl rfl<|pt0 rfl rfl rfl<|.fin<|WP.cond rfl (fun _=>?_) nofun
   refine WP.seq<|rg 1 0<|as0 rfl rfl<|.fin ?_
   have H:=H.outr
   cases H.out; exact rt i2 rfl () 2 [0,1] 1 (.cons (res_tmp rfl) .nil)
  have H:=H.cf c2153
  refine mvg rfl rfl rfl<|el H fun t2155 h2156 H=>cx 2 [0,1] cal11 (server_Server_Idle.c h2156 (p0_:=g1985)) pC fun _ _=>?_
  refine ung rfl rfl rfl (run_not _)<|pf0 rfl rfl rfl<|mv0 rfl rfl ?_
  cases c2157:!t2155
  rotate_left
  ·
   have H:=H.ct c2157
   refine sk rfl rfl<|Dv.skipb rfl ⟨_,_,rfl,rfl,.inl rfl⟩ (fun _=>pend_bits (by kernel_rfl))<|sk rfl rfl<|pt0 rfl rfl rfl<|.fin<|WP.cond rfl (fun _=>?_) nofun
   refine WP.seq<|rg 1 0<|as0 rfl rfl<|.fin ?_
   have H:=H.outr
   cases H.out; exact rt i2 rfl () 2 [0,1] 1 (.cons (res_tmp rfl) .nil)
  have H:=H.cf c2157
  refine mvg rfl rfl rfl<|el H fun t2159 h2160 H=>cx 2 [0,1] cal12 (server_Server_View.c h2160 (p0_:=g1985)) pC fun _ _=>?_
  refine Dv.npe rfl (gg rfl) rfl rfl Tryz.underlying33<|pf0 rfl rfl rfl<|.fin<|WP.cond rfl nofun (fun _=>?_)
  refine WP.skip<|rg 3 0<|mv0 rfl rfl<|bn0 rfl rfl rfl run_add<|as0 rfl rfl<|.fin<|ng (sg 2 [0,1] 1) fun _ _=>?_
  exact bk j2162 (w64 (x1978 + 1)) H
 have H:=H.ct c1989
 refine Dv.gh (gh_sh 50 c1989 rfl) (fun _ _=>?_)
 refine Dv.gh (gh_sh 13 c1989 rfl) (fun _ _=>?_)
 refine Dv.gh (gh_sh 51 c1989 rfl) (fun _ _=>?_)
 refine Dv.gh (gh_sh 52 c1989 rfl) (fun _ _=>?_)
 refine mvg rfl rfl rfl<|mvg rfl rfl rfl<|gr H fun g1990 H=>Dv.ixr rfl (gg rfl) rfl rfl Tryz.underlying24 Tryz.underlying3 c3 g1990.1 g1990.2<|ldR rfl (gg rfl) rfl sc3 rfl<|bng rfl rfl rfl rfl run_ge<|pt0 rfl rfl rfl<|mv0 rfl rfl ?_
 rcases bem (decide (0≤((intK .i64).at ([a1,a1,0,0]:List Int) x1978))) with c1991 | c1991
 ·
  have H:=H.cf c1991
  refine Dv.gh (gh_sh 57 c1991 rfl) (fun _ _=>?_)
  refine Dv.gh (gh_sh 58 c1991 rfl) (fun _ _=>?_)
  refine Dv.gh (gh_sh 59 c1991 rfl) (fun _ _=>?_)
  refine sk rfl rfl<|sk rfl rfl<|sk rfl rfl<|sk rfl rfl<|sk rfl rfl<|pf0 rfl rfl rfl<|mv0 rfl rfl<|sk rfl rfl<|sk rfl rfl<|sk rfl rfl<|sk rfl rfl<|sk rfl rfl<|pf0 rfl rfl rfl<|mv0 rfl rfl<|sk rfl rfl<|sk rfl rfl<|sk rfl rfl<|sk rfl rfl<|sk rfl rfl<|pf0 rfl rfl rfl<|as0 rfl rfl<|.fin<|WP.seq<|WP.seq<|rg 18 0<|mv0 rfl rfl<|Dv.one0 (fun _=>SSelTicStaAllComSen.nn) rfl trivial rfl rfl Tryz.underlying25 (mem_at 0 rfl)<|mv0 rfl rfl<|bn0 rfl rfl rfl (run_bne Tryz.underlying4)<|mv0 rfl rfl ?_
  rcases bem ((!t1983.1.isNone) != false) with c2106 | c2106
  rotate_left
  ·
   have H:=H.ct c2106
   refine Dv.gh (gh_sh 83 c2106 rfl) (fun _ _=>?_)
   refine Dv.gh (gh_sh 84 c2106 rfl) (fun _ _=>?_)
   refine sk rfl rfl<|sk rfl rfl<|sk rfl rfl<|sk rfl rfl<|pt0 rfl rfl rfl<|mv0 rfl rfl<|sk rfl rfl<|sk rfl rfl<|sk rfl rfl<|sku rfl rfl<|sku rfl rfl<|sk rfl rfl<|pt0 rfl rfl rfl<|.fin<|WP.cond rfl (fun _=>?_) nofun
   refine WP.seq<|rg 1 0<|as0 rfl rfl<|.fin ?_
   have H:=H.outr
   cases H.out; exact rt i2 rfl () 2 [0,1] 1 (.cons (res_tmp rfl) .nil)
  have H:=H.cf c2106
  refine Dv.gh (gh_sh 83 c2106 rfl) (fun _ _=>?_)
  refine Dv.gh (gh_sh 84 c2106 rfl) (fun _ _=>?_)
  refine mvg rfl rfl rfl<|bng rfl rfl rfl rfl run_eq<|mvg rfl rfl rfl<|bng rfl rfl rfl rfl (run_bne Tryz.underlying4)<|pf0 rfl rfl rfl<|mv0 rfl rfl ?_
  rcases bem ((t1983.2 == 0) != false) with c2108 | c2108
  rotate_left
  ·
   have H:=H.ct c2108
   refine Dv.gh (gh_sh 88 c2108 rfl) (fun _ _=>?_)
   refine Dv.gh (gh_sh 89 c2108 rfl) (fun _ _=>?_)
   refine Dv.gh (gh_sh 90 c2108 rfl) (fun _ _=>?_)
   refine sk rfl rfl<|sk rfl rfl<|sk rfl rfl<|sku rfl rfl<|sku rfl rfl<|sk rfl rfl<|pt0 rfl rfl rfl<|.fin<|WP.cond rfl (fun _=>?_) nofun
   refine WP.seq<|rg 1 0<|as0 rfl rfl<|.fin ?_
   have H:=H.outr
   cases H.out; exact rt i2 rfl () 2 [0,1] 1 (.cons (res_tmp rfl) .nil)
  have H:=H.cf c2108
  refine Dv.gh (gh_sh 88 c2108 rfl) (fun _ _=>?_)
  refine Dv.gh (gh_sh 89 c2108 rfl) (fun _ _=>?_)
  refine Dv.gh (gh_sh 90 c2108 rfl) (fun _ _=>?_)
  refine mvg rfl rfl rfl<|ung rfl rfl rfl (run_not _)<|mvg rfl rfl rfl<|mvg rfl rfl rfl<|bng rfl rfl rfl rfl run_ne<|ptg rfl rfl rfl rfl<|pf0 rfl rfl rfl<|.fin<|cd H rfl (fun _ H=>?_) (fun _ H=>?_)
  ·
   refine WP.seq<|rg 1 0<|as0 rfl rfl<|.fin ?_
   have H:=H.outr
   cases H.out; exact rt i2 rfl () 2 [0,1] 1 (.cons (res_tmp rfl) .nil)
  refine WP.skip<|WP.seq<|WP.seq<|rg 2 0<|mv0 rfl rfl<|Dv.oeq0 (fun _=>SSelTicStaAllComSen.nn) rfl trivial rfl rfl Tryz.underlying25 (mem_at 0 rfl)<|.fin<|cd H rfl (fun _ H=>?_) (fun c2111 H=>?_)
  ·
   refine WP.exit<|rg 3 0<|mv0 rfl rfl<|bn0 rfl rfl rfl run_add<|as0 rfl rfl<|.fin<|ng (sg 2 [0,1] 1) fun _ _=>?_
   exact bk j2162 (w64 (x1978 + 1)) H
  refine wg (opt_some 0 rfl c2111) fun _ _=>?_
  refine WP.skip<|WP.seq<|dgo Tryz.checked.mixed [0,2,3,4,5,1,6,7,8,10,11,12,13,9,14,15,16,17,19,20,21,22,18,23,24,25,26,27,28,29,30,31,32,33,34] [1,9,18,27,32]<|mv0 rfl rfl<|mv0 rfl rfl<|mv0 rfl rfl<|gr H fun g2112 H=>Dv.ixr rfl trivial rfl rfl Tryz.underlying23 Tryz.underlying9 c9 g2112.1 g2112.2<|ldR rfl trivial rfl sc9 rfl<|el H fun t2113 h2114 H=>Dv.callx (pre:=[SSelTicStaAllComSen.O g1985 (t1983.1.getD default)]) (F:=[lax]++F) (fun _:Unit=>[SSelTicStaAllComSen.O g1985 (t1983.1.getD default),lax]++F) rfl trivial cal8 rfl (server_Server_Self.c h2114 (p0_:=g1985)) (perm_to (L:=[SSelTicStaAllComSen.O g1985 (t1983.1.getD default),lax]) (F:=F) [0,1] rfl rfl rfl) rfl (fun _=>pendc (pend_in (fun _=>trivial) (pend_in (fun _=>trivial) (pend_in (fun _=>trivial) (pend_in (fun _=>trivial) (pend_by (by kernel_rfl) pend_nil)))))) (fun _ _=>?_)
  refine bn0 rfl rfl rfl run_sne<|mv0 rfl rfl ?_
  cases c2115:!decide (t2113 = (strK.at ([t1971,(⟨#[115,49]⟩:ByteArray),(⟨#[115,49]⟩:ByteArray),t1973]:List ByteArray) x1978))
  rotate_left
  ·
   have H:=H.ct c2115
   refine sk rfl rfl<|sk rfl rfl<|sk rfl rfl<|sk rfl rfl<|sk rfl rfl<|Dv.skipb rfl ⟨_,_,rfl,rfl,.inl rfl⟩ (fun _=>(pend_in (fun _=>trivial) (pend_in (fun _=>trivial) (pend_in (fun _=>trivial) (pend_in (fun _=>trivial) (pend_by (by kernel_rfl) (pend_by (by kernel_rfl) (pend_by (by kernel_rfl) (pend_by (by kernel_rfl) (pend_by (by kernel_rfl) (pend_by (by kernel_rfl) (pend_by (by kernel_rfl) (pend_by (by kernel_rfl) pend_nil)))))))))))))<|sk rfl rfl<|pt0 rfl rfl rfl<|mv0 rfl rfl<|sk rfl rfl<|sk rfl rfl<|sk rfl rfl<|sk rfl rfl<|sk rfl rfl<|Dv.skipb rfl ⟨_,_,rfl,rfl,.inl rfl⟩ (fun _=>(pend_in (fun _=>trivial) (pend_in (fun _=>trivial) (pend_in (fun _=>trivial) (pend_in (fun _=>trivial) (pend_by (by kernel_rfl) (pend_by (by kernel_rfl) (pend_by (by kernel_rfl) (pend_by (by kernel_rfl) (pend_by (by kernel_rfl) (pend_by (by kernel_rfl) (pend_by (by kernel_rfl) (pend_by (by kernel_rfl) (pend_by (by kernel_rfl) (pend_by (by kernel_rfl) (pend_by (by kernel_rfl) (pend_by (by kernel_rfl) (pend_by (by kernel_rfl) (pend_by (by kernel_rfl) (pend_by (by kernel_rfl) (pend_by (by kernel_rfl) pend_nil)))))))))))))))))))))<|sk rfl rfl<|pt0 rfl rfl rfl<|mv0 rfl rfl<|sk rfl rfl<|Dv.skipb rfl ⟨_,_,rfl,rfl,.inl rfl⟩ (fun _=>pend_bits (by kernel_rfl))<|sk rfl rfl<|pt0 rfl rfl rfl<|mv0 rfl rfl<|sk rfl rfl<|Dv.skipb rfl ⟨_,_,rfl,rfl,.inl rfl⟩ (fun _=>pend_bits (by kernel_rfl))<|sk rfl rfl<|pt0 rfl rfl rfl<|.fin<|WP.cond rfl (fun _=>?_) nofun
   refine WP.seq<|rg 1 0<|as0 rfl rfl<|.fin ?_
   have H:=H.outr
   cases H.out; exact rt i2 rfl () 2 [0,1] 1 (.cons (res_tmp rfl) .nil)
  have H:=H.cf c2115
  refine mvg rfl rfl rfl<|mvg rfl rfl rfl<|mvg rfl rfl rfl<|gr H fun g2117 H=>Dv.ixr rfl (gg rfl) rfl rfl Tryz.underlying24 Tryz.underlying3 c3 g2117.1 g2117.2<|ldR rfl (gg rfl) rfl sc3 rfl<|el H fun t2118 h2119 H=>Dv.callx (pre:=[SSelTicStaAllComSen.O g1985 (t1983.1.getD default)]) (F:=[lax]++F) (fun _:Unit=>[SSelTicStaAllComSen.O g1985 (t1983.1.getD default),lax]++F) rfl (gg rfl) cal9 rfl (server_Server_Tick.c h2119 (p0_:=g1985)) (perm_to (L:=[SSelTicStaAllComSen.O g1985 (t1983.1.getD default),lax]) (F:=F) [0,1] rfl rfl rfl) rfl (fun _=>pendc (pend_in (fun _=>trivial) (pend_in (fun _=>trivial) (pend_in (fun _=>trivial) (pend_in (fun _=>trivial) (pend_by (by kernel_rfl) (pend_by (by kernel_rfl) (pend_by (by kernel_rfl) (pend_by (by kernel_rfl) (pend_by (by kernel_rfl) (pend_by (by kernel_rfl) (pend_by (by kernel_rfl) (pend_by (by kernel_rfl) pend_nil))))))))))))) (fun _ _=>?_)
  refine bng rfl rfl rfl rfl run_ne<|pf0 rfl rfl rfl<|mv0 rfl rfl ?_
  cases c2120:(t2118 != ((intK .i64).at ([a1,a1,0,0]:List Int) x1978))
  rotate_left
  ·
   have H:=H.ct c2120
   refine sk rfl rfl<|sk rfl rfl<|sk rfl rfl<|sk rfl rfl<|sk rfl rfl<|Dv.skipb rfl ⟨_,_,rfl,rfl,.inl rfl⟩ (fun _=>(pend_in (fun _=>trivial) (pend_in (fun _=>trivial) (pend_in (fun _=>trivial) (pend_in (fun _=>trivial) (pend_by (by kernel_rfl) (pend_by (by kernel_rfl) (pend_by (by kernel_rfl) (pend_by (by kernel_rfl) (pend_by (by kernel_rfl) (pend_by (by kernel_rfl) (pend_by (by kernel_rfl) (pend_by (by kernel_rfl) (pend_by (by kernel_rfl) (pend_by (by kernel_rfl) (pend_by (by kernel_rfl) (pend_by (by kernel_rfl) (pend_by (by kernel_rfl) (pend_by (by kernel_rfl) (pend_by (by kernel_rfl) (pend_by (by kernel_rfl) pend_nil)))))))))))))))))))))<|sk rfl rfl<|pt0 rfl rfl rfl<|mv0 rfl rfl<|sk rfl rfl<|Dv.skipb rfl ⟨_,_,rfl,rfl,.inl rfl⟩ (fun _=>pend_bits (by kernel_rfl))<|sk rfl rfl<|pt0 rfl rfl rfl<|mv0 rfl rfl<|sk rfl rfl<|Dv.skipb rfl ⟨_,_,rfl,rfl,.inl rfl⟩ (fun _=>pend_bits (by kernel_rfl))<|sk rfl rfl<|pt0 rfl rfl rfl<|.fin<|WP.cond rfl (fun _=>?_) nofun
   refine WP.seq<|rg 1 0<|as0 rfl rfl<|.fin ?_
   have H:=H.outr
   cases H.out; exact rt i2 rfl () 2 [0,1] 1 (.cons (res_tmp rfl) .nil)
  have H:=H.cf c2120
  refine mvg rfl rfl rfl<|mvg rfl rfl rfl<|mvg rfl rfl rfl<|gr H fun g2122 H=>Dv.ixr rfl (gg rfl) rfl rfl Tryz.underlying24 Tryz.underlying3 c3 g2122.1 g2122.2<|ldR rfl (gg rfl) rfl sc3 rfl<|el H fun t2123 h2124 H=>Dv.callx (pre:=[SSelTicStaAllComSen.O g1985 (t1983.1.getD default)]) (F:=[lax]++F) (fun _:Unit=>[SSelTicStaAllComSen.O g1985 (t1983.1.getD default),lax]++F) rfl (gg rfl) cal10 rfl (server_Server_Pos.c h2124 (p0_:=g1985)) (perm_to (L:=[SSelTicStaAllComSen.O g1985 (t1983.1.getD default),lax]) (F:=F) [0,1] rfl rfl rfl) rfl (fun _=>pendc (pend_in (fun _=>trivial) (pend_in (fun _=>trivial) (pend_in (fun _=>trivial) (pend_in (fun _=>trivial) (pend_by (by kernel_rfl) (pend_by (by kernel_rfl) (pend_by (by kernel_rfl) (pend_by (by kernel_rfl) (pend_by (by kernel_rfl) (pend_by (by kernel_rfl) (pend_by (by kernel_rfl) (pend_by (by kernel_rfl) (pend_by (by kernel_rfl) (pend_by (by kernel_rfl) (pend_by (by kernel_rfl) (pend_by (by kernel_rfl) (pend_by (by kernel_rfl) (pend_by (by kernel_rfl) (pend_by (by kernel_rfl) (pend_by (by kernel_rfl) pend_nil))))))))))))))))))))) (fun _ _=>?_)
  refine bng rfl rfl rfl rfl run_ne<|pf0 rfl rfl rfl<|mv0 rfl rfl ?_
  cases c2125:(t2123 != ((intK .i64).at ([a2,0,a2,0]:List Int) x1978))
  rotate_left
  ·
   have H:=H.ct c2125
   refine sk rfl rfl<|Dv.skipb rfl ⟨_,_,rfl,rfl,.inl rfl⟩ (fun _=>pend_bits (by kernel_rfl))<|sk rfl rfl<|pt0 rfl rfl rfl<|mv0 rfl rfl<|sk rfl rfl<|Dv.skipb rfl ⟨_,_,rfl,rfl,.inl rfl⟩ (fun _=>pend_bits (by kernel_rfl))<|sk rfl rfl<|pt0 rfl rfl rfl<|.fin<|WP.cond rfl (fun _=>?_) nofun
   refine WP.seq<|rg 1 0<|as0 rfl rfl<|.fin ?_
   have H:=H.outr
   cases H.out; exact rt i2 rfl () 2 [0,1] 1 (.cons (res_tmp rfl) .nil)
  have H:=H.cf c2125
  refine mvg rfl rfl rfl<|el H fun t2127 h2128 H=>cx 2 [0,1] cal11 (server_Server_Idle.c h2128 (p0_:=g1985)) pC fun _ _=>?_
  refine ung rfl rfl rfl (run_not _)<|pf0 rfl rfl rfl<|mv0 rfl rfl ?_
  cases c2129:!t2127
  rotate_left
  ·
   have H:=H.ct c2129
   refine sk rfl rfl<|Dv.skipb rfl ⟨_,_,rfl,rfl,.inl rfl⟩ (fun _=>pend_bits (by kernel_rfl))<|sk rfl rfl<|pt0 rfl rfl rfl<|.fin<|WP.cond rfl (fun _=>?_) nofun
   refine WP.seq<|rg 1 0<|as0 rfl rfl<|.fin ?_
   have H:=H.outr
   cases H.out; exact rt i2 rfl () 2 [0,1] 1 (.cons (res_tmp rfl) .nil)
  have H:=H.cf c2129
  refine mvg rfl rfl rfl<|el H fun t2131 h2132 H=>cx 2 [0,1] cal12 (server_Server_View.c h2132 (p0_:=g1985)) pC fun _ _=>?_
  refine Dv.npe rfl (gg rfl) rfl rfl Tryz.underlying33<|pf0 rfl rfl rfl<|.fin<|WP.cond rfl nofun (fun _=>?_)
  refine WP.skip<|rg 3 0<|mv0 rfl rfl<|bn0 rfl rfl rfl run_add<|as0 rfl rfl<|.fin<|ng (sg 2 [0,1] 1) fun _ _=>?_
  exact bk j2162 (w64 (x1978 + 1)) H
 have H:=H.ct c1991
 refine Dv.gh (gh_sh 57 c1991 rfl) (fun _ _=>?_)
 refine Dv.gh (gh_sh 58 c1991 rfl) (fun _ _=>?_)
 refine Dv.gh (gh_sh 59 c1991 rfl) (fun _ _=>?_)
 refine mvg rfl rfl rfl<|mvg rfl rfl rfl<|gr H fun g1992 H=>Dv.ixr rfl (gg rfl) rfl rfl Tryz.underlying24 Tryz.underlying3 c3 g1992.1 g1992.2<|ldR rfl (gg rfl) rfl sc3 rfl<|bng rfl rfl rfl rfl run_le<|pt0 rfl rfl rfl<|mv0 rfl rfl ?_
 rcases bem (decide (((intK .i64).at ([a1,a1,0,0]:List Int) x1978)≤1099511627776)) with c1993 | c1993
 ·
  have H:=H.cf c1993
  refine Dv.gh (gh_sh 64 c1993 rfl) (fun _ _=>?_)
  refine Dv.gh (gh_sh 65 c1993 rfl) (fun _ _=>?_)
  refine Dv.gh (gh_sh 66 c1993 rfl) (fun _ _=>?_)
  refine sk rfl rfl<|sk rfl rfl<|sk rfl rfl<|sk rfl rfl<|sk rfl rfl<|pf0 rfl rfl rfl<|mv0 rfl rfl<|sk rfl rfl<|sk rfl rfl<|sk rfl rfl<|sk rfl rfl<|sk rfl rfl<|pf0 rfl rfl rfl<|as0 rfl rfl<|.fin<|WP.seq<|WP.seq<|rg 18 0<|mv0 rfl rfl<|Dv.one0 (fun _=>SSelTicStaAllComSen.nn) rfl trivial rfl rfl Tryz.underlying25 (mem_at 0 rfl)<|mv0 rfl rfl<|bn0 rfl rfl rfl (run_bne Tryz.underlying4)<|mv0 rfl rfl ?_
  rcases bem ((!t1983.1.isNone) != false) with c2078 | c2078
  rotate_left
  ·
   have H:=H.ct c2078
   refine Dv.gh (gh_sh 83 c2078 rfl) (fun _ _=>?_)
   refine Dv.gh (gh_sh 84 c2078 rfl) (fun _ _=>?_)
   refine sk rfl rfl<|sk rfl rfl<|sk rfl rfl<|sk rfl rfl<|pt0 rfl rfl rfl<|mv0 rfl rfl<|sk rfl rfl<|sk rfl rfl<|sk rfl rfl<|sku rfl rfl<|sku rfl rfl<|sk rfl rfl<|pt0 rfl rfl rfl<|.fin<|WP.cond rfl (fun _=>?_) nofun
   refine WP.seq<|rg 1 0<|as0 rfl rfl<|.fin ?_
   have H:=H.outr
   cases H.out; exact rt i2 rfl () 2 [0,1] 1 (.cons (res_tmp rfl) .nil)
  have H:=H.cf c2078
  refine Dv.gh (gh_sh 83 c2078 rfl) (fun _ _=>?_)
  refine Dv.gh (gh_sh 84 c2078 rfl) (fun _ _=>?_)
  refine mvg rfl rfl rfl<|bng rfl rfl rfl rfl run_eq<|mvg rfl rfl rfl<|bng rfl rfl rfl rfl (run_bne Tryz.underlying4)<|pf0 rfl rfl rfl<|mv0 rfl rfl ?_
  rcases bem ((t1983.2 == 0) != false) with c2080 | c2080
  rotate_left
  ·
   have H:=H.ct c2080
   refine Dv.gh (gh_sh 88 c2080 rfl) (fun _ _=>?_)
   refine Dv.gh (gh_sh 89 c2080 rfl) (fun _ _=>?_)
   refine Dv.gh (gh_sh 90 c2080 rfl) (fun _ _=>?_)
   refine sk rfl rfl<|sk rfl rfl<|sk rfl rfl<|sku rfl rfl<|sku rfl rfl<|sk rfl rfl<|pt0 rfl rfl rfl<|.fin<|WP.cond rfl (fun _=>?_) nofun
   refine WP.seq<|rg 1 0<|as0 rfl rfl<|.fin ?_
   have H:=H.outr
   cases H.out; exact rt i2 rfl () 2 [0,1] 1 (.cons (res_tmp rfl) .nil)
  have H:=H.cf c2080
  refine Dv.gh (gh_sh 88 c2080 rfl) (fun _ _=>?_)
  refine Dv.gh (gh_sh 89 c2080 rfl) (fun _ _=>?_)
  refine Dv.gh (gh_sh 90 c2080 rfl) (fun _ _=>?_)
  refine mvg rfl rfl rfl<|ung rfl rfl rfl (run_not _)<|mvg rfl rfl rfl<|mvg rfl rfl rfl<|bng rfl rfl rfl rfl run_ne<|ptg rfl rfl rfl rfl<|pf0 rfl rfl rfl<|.fin<|cd H rfl (fun _ H=>?_) (fun _ H=>?_)
  ·
   refine WP.seq<|rg 1 0<|as0 rfl rfl<|.fin ?_
   have H:=H.outr
   cases H.out; exact rt i2 rfl () 2 [0,1] 1 (.cons (res_tmp rfl) .nil)
  refine WP.skip<|WP.seq<|WP.seq<|rg 2 0<|mv0 rfl rfl<|Dv.oeq0 (fun _=>SSelTicStaAllComSen.nn) rfl trivial rfl rfl Tryz.underlying25 (mem_at 0 rfl)<|.fin<|cd H rfl (fun _ H=>?_) (fun c2083 H=>?_)
  ·
   refine WP.exit<|rg 3 0<|mv0 rfl rfl<|bn0 rfl rfl rfl run_add<|as0 rfl rfl<|.fin<|ng (sg 2 [0,1] 1) fun _ _=>?_
   exact bk j2162 (w64 (x1978 + 1)) H
  refine wg (opt_some 0 rfl c2083) fun _ _=>?_
  refine WP.skip<|WP.seq<|dgo Tryz.checked.mixed [0,2,3,4,5,1,6,7,8,10,11,12,13,9,14,15,16,17,19,20,21,22,18,23,24,25,26,27,28,29,30,31,32,33,34] [1,9,18,27,32]<|mv0 rfl rfl<|mv0 rfl rfl<|mv0 rfl rfl<|gr H fun g2084 H=>Dv.ixr rfl trivial rfl rfl Tryz.underlying23 Tryz.underlying9 c9 g2084.1 g2084.2<|ldR rfl trivial rfl sc9 rfl<|el H fun t2085 h2086 H=>Dv.callx (pre:=[SSelTicStaAllComSen.O g1985 (t1983.1.getD default)]) (F:=[lax]++F) (fun _:Unit=>[SSelTicStaAllComSen.O g1985 (t1983.1.getD default),lax]++F) rfl trivial cal8 rfl (server_Server_Self.c h2086 (p0_:=g1985)) (perm_to (L:=[SSelTicStaAllComSen.O g1985 (t1983.1.getD default),lax]) (F:=F) [0,1] rfl rfl rfl) rfl (fun _=>pendc (pend_in (fun _=>trivial) (pend_in (fun _=>trivial) (pend_in (fun _=>trivial) (pend_in (fun _=>trivial) (pend_by (by kernel_rfl) pend_nil)))))) (fun _ _=>?_)
  refine bn0 rfl rfl rfl run_sne<|mv0 rfl rfl ?_
  cases c2087:!decide (t2085 = (strK.at ([t1971,(⟨#[115,49]⟩:ByteArray),(⟨#[115,49]⟩:ByteArray),t1973]:List ByteArray) x1978))
  rotate_left
  ·
   have H:=H.ct c2087
   refine sk rfl rfl<|sk rfl rfl<|sk rfl rfl<|sk rfl rfl<|sk rfl rfl<|Dv.skipb rfl ⟨_,_,rfl,rfl,.inl rfl⟩ (fun _=>(pend_in (fun _=>trivial) (pend_in (fun _=>trivial) (pend_in (fun _=>trivial) (pend_in (fun _=>trivial) (pend_by (by kernel_rfl) (pend_by (by kernel_rfl) (pend_by (by kernel_rfl) (pend_by (by kernel_rfl) (pend_by (by kernel_rfl) (pend_by (by kernel_rfl) (pend_by (by kernel_rfl) (pend_by (by kernel_rfl) pend_nil)))))))))))))<|sk rfl rfl<|pt0 rfl rfl rfl<|mv0 rfl rfl<|sk rfl rfl<|sk rfl rfl<|sk rfl rfl<|sk rfl rfl<|sk rfl rfl<|Dv.skipb rfl ⟨_,_,rfl,rfl,.inl rfl⟩ (fun _=>(pend_in (fun _=>trivial) (pend_in (fun _=>trivial) (pend_in (fun _=>trivial) (pend_in (fun _=>trivial) (pend_by (by kernel_rfl) (pend_by (by kernel_rfl) (pend_by (by kernel_rfl) (pend_by (by kernel_rfl) (pend_by (by kernel_rfl) (pend_by (by kernel_rfl) (pend_by (by kernel_rfl) (pend_by (by kernel_rfl) (pend_by (by kernel_rfl) (pend_by (by kernel_rfl) (pend_by (by kernel_rfl) (pend_by (by kernel_rfl) (pend_by (by kernel_rfl) (pend_by (by kernel_rfl) (pend_by (by kernel_rfl) (pend_by (by kernel_rfl) pend_nil)))))))))))))))))))))<|sk rfl rfl<|pt0 rfl rfl rfl<|mv0 rfl rfl<|sk rfl rfl<|Dv.skipb rfl ⟨_,_,rfl,rfl,.inl rfl⟩ (fun _=>pend_bits (by kernel_rfl))<|sk rfl rfl<|pt0 rfl rfl rfl<|mv0 rfl rfl<|sk rfl rfl<|Dv.skipb rfl ⟨_,_,rfl,rfl,.inl rfl⟩ (fun _=>pend_bits (by kernel_rfl))<|sk rfl rfl<|pt0 rfl rfl rfl<|.fin<|WP.cond rfl (fun _=>?_) nofun
   refine WP.seq<|rg 1 0<|as0 rfl rfl<|.fin ?_
   have H:=H.outr
   cases H.out; exact rt i2 rfl () 2 [0,1] 1 (.cons (res_tmp rfl) .nil)
  have H:=H.cf c2087
  refine mvg rfl rfl rfl<|mvg rfl rfl rfl<|mvg rfl rfl rfl<|gr H fun g2089 H=>Dv.ixr rfl (gg rfl) rfl rfl Tryz.underlying24 Tryz.underlying3 c3 g2089.1 g2089.2<|ldR rfl (gg rfl) rfl sc3 rfl<|el H fun t2090 h2091 H=>Dv.callx (pre:=[SSelTicStaAllComSen.O g1985 (t1983.1.getD default)]) (F:=[lax]++F) (fun _:Unit=>[SSelTicStaAllComSen.O g1985 (t1983.1.getD default),lax]++F) rfl (gg rfl) cal9 rfl (server_Server_Tick.c h2091 (p0_:=g1985)) (perm_to (L:=[SSelTicStaAllComSen.O g1985 (t1983.1.getD default),lax]) (F:=F) [0,1] rfl rfl rfl) rfl (fun _=>pendc (pend_in (fun _=>trivial) (pend_in (fun _=>trivial) (pend_in (fun _=>trivial) (pend_in (fun _=>trivial) (pend_by (by kernel_rfl) (pend_by (by kernel_rfl) (pend_by (by kernel_rfl) (pend_by (by kernel_rfl) (pend_by (by kernel_rfl) (pend_by (by kernel_rfl) (pend_by (by kernel_rfl) (pend_by (by kernel_rfl) pend_nil))))))))))))) (fun _ _=>?_)
  refine bng rfl rfl rfl rfl run_ne<|pf0 rfl rfl rfl<|mv0 rfl rfl ?_
  cases c2092:(t2090 != ((intK .i64).at ([a1,a1,0,0]:List Int) x1978))
  rotate_left
  ·
   have H:=H.ct c2092
   refine sk rfl rfl<|sk rfl rfl<|sk rfl rfl<|sk rfl rfl<|sk rfl rfl<|Dv.skipb rfl ⟨_,_,rfl,rfl,.inl rfl⟩ (fun _=>(pend_in (fun _=>trivial) (pend_in (fun _=>trivial) (pend_in (fun _=>trivial) (pend_in (fun _=>trivial) (pend_by (by kernel_rfl) (pend_by (by kernel_rfl) (pend_by (by kernel_rfl) (pend_by (by kernel_rfl) (pend_by (by kernel_rfl) (pend_by (by kernel_rfl) (pend_by (by kernel_rfl) (pend_by (by kernel_rfl) (pend_by (by kernel_rfl) (pend_by (by kernel_rfl) (pend_by (by kernel_rfl) (pend_by (by kernel_rfl) (pend_by (by kernel_rfl) (pend_by (by kernel_rfl) (pend_by (by kernel_rfl) (pend_by (by kernel_rfl) pend_nil)))))))))))))))))))))<|sk rfl rfl<|pt0 rfl rfl rfl<|mv0 rfl rfl<|sk rfl rfl<|Dv.skipb rfl ⟨_,_,rfl,rfl,.inl rfl⟩ (fun _=>pend_bits (by kernel_rfl))<|sk rfl rfl<|pt0 rfl rfl rfl<|mv0 rfl rfl<|sk rfl rfl<|Dv.skipb rfl ⟨_,_,rfl,rfl,.inl rfl⟩ (fun _=>pend_bits (by kernel_rfl))<|sk rfl rfl<|pt0 rfl rfl rfl<|.fin<|WP.cond rfl (fun _=>?_) nofun
   refine WP.seq<|rg 1 0<|as0 rfl rfl<|.fin ?_
   have H:=H.outr
   cases H.out; exact rt i2 rfl () 2 [0,1] 1 (.cons (res_tmp rfl) .nil)
  have H:=H.cf c2092
  refine mvg rfl rfl rfl<|mvg rfl rfl rfl<|mvg rfl rfl rfl<|gr H fun g2094 H=>Dv.ixr rfl (gg rfl) rfl rfl Tryz.underlying24 Tryz.underlying3 c3 g2094.1 g2094.2<|ldR rfl (gg rfl) rfl sc3 rfl<|el H fun t2095 h2096 H=>Dv.callx (pre:=[SSelTicStaAllComSen.O g1985 (t1983.1.getD default)]) (F:=[lax]++F) (fun _:Unit=>[SSelTicStaAllComSen.O g1985 (t1983.1.getD default),lax]++F) rfl (gg rfl) cal10 rfl (server_Server_Pos.c h2096 (p0_:=g1985)) (perm_to (L:=[SSelTicStaAllComSen.O g1985 (t1983.1.getD default),lax]) (F:=F) [0,1] rfl rfl rfl) rfl (fun _=>pendc (pend_in (fun _=>trivial) (pend_in (fun _=>trivial) (pend_in (fun _=>trivial) (pend_in (fun _=>trivial) (pend_by (by kernel_rfl) (pend_by (by kernel_rfl) (pend_by (by kernel_rfl) (pend_by (by kernel_rfl) (pend_by (by kernel_rfl) (pend_by (by kernel_rfl) (pend_by (by kernel_rfl) (pend_by (by kernel_rfl) (pend_by (by kernel_rfl) (pend_by (by kernel_rfl) (pend_by (by kernel_rfl) (pend_by (by kernel_rfl) (pend_by (by kernel_rfl) (pend_by (by kernel_rfl) (pend_by (by kernel_rfl) (pend_by (by kernel_rfl) pend_nil))))))))))))))))))))) (fun _ _=>?_)
  refine bng rfl rfl rfl rfl run_ne<|pf0 rfl rfl rfl<|mv0 rfl rfl ?_
  cases c2097:(t2095 != ((intK .i64).at ([a2,0,a2,0]:List Int) x1978))
  rotate_left
  ·
   have H:=H.ct c2097
   refine sk rfl rfl<|Dv.skipb rfl ⟨_,_,rfl,rfl,.inl rfl⟩ (fun _=>pend_bits (by kernel_rfl))<|sk rfl rfl<|pt0 rfl rfl rfl<|mv0 rfl rfl<|sk rfl rfl<|Dv.skipb rfl ⟨_,_,rfl,rfl,.inl rfl⟩ (fun _=>pend_bits (by kernel_rfl))<|sk rfl rfl<|pt0 rfl rfl rfl<|.fin<|WP.cond rfl (fun _=>?_) nofun
   refine WP.seq<|rg 1 0<|as0 rfl rfl<|.fin ?_
   have H:=H.outr
   cases H.out; exact rt i2 rfl () 2 [0,1] 1 (.cons (res_tmp rfl) .nil)
  have H:=H.cf c2097
  refine mvg rfl rfl rfl<|el H fun t2099 h2100 H=>cx 2 [0,1] cal11 (server_Server_Idle.c h2100 (p0_:=g1985)) pC fun _ _=>?_
  refine ung rfl rfl rfl (run_not _)<|pf0 rfl rfl rfl<|mv0 rfl rfl ?_
  cases c2101:!t2099
  rotate_left
  ·
   have H:=H.ct c2101
   refine sk rfl rfl<|Dv.skipb rfl ⟨_,_,rfl,rfl,.inl rfl⟩ (fun _=>pend_bits (by kernel_rfl))<|sk rfl rfl<|pt0 rfl rfl rfl<|.fin<|WP.cond rfl (fun _=>?_) nofun
   refine WP.seq<|rg 1 0<|as0 rfl rfl<|.fin ?_
   have H:=H.outr
   cases H.out; exact rt i2 rfl () 2 [0,1] 1 (.cons (res_tmp rfl) .nil)
  have H:=H.cf c2101
  refine mvg rfl rfl rfl<|el H fun t2103 h2104 H=>cx 2 [0,1] cal12 (server_Server_View.c h2104 (p0_:=g1985)) pC fun _ _=>?_
  refine Dv.npe rfl (gg rfl) rfl rfl Tryz.underlying33<|pf0 rfl rfl rfl<|.fin<|WP.cond rfl nofun (fun _=>?_)
  refine WP.skip<|rg 3 0<|mv0 rfl rfl<|bn0 rfl rfl rfl run_add<|as0 rfl rfl<|.fin<|ng (sg 2 [0,1] 1) fun _ _=>?_
  exact bk j2162 (w64 (x1978 + 1)) H
 have H:=H.ct c1993
 refine Dv.gh (gh_sh 64 c1993 rfl) (fun _ _=>?_)
 refine Dv.gh (gh_sh 65 c1993 rfl) (fun _ _=>?_)
 refine Dv.gh (gh_sh 66 c1993 rfl) (fun _ _=>?_)
 refine mvg rfl rfl rfl<|mvg rfl rfl rfl<|gr H fun g1994 H=>Dv.ixr rfl (gg rfl) rfl rfl Tryz.underlying24 Tryz.underlying3 c3 g1994.1 g1994.2<|ldR rfl (gg rfl) rfl sc3 rfl<|bng rfl rfl rfl rfl run_ge<|pt0 rfl rfl rfl<|mv0 rfl rfl ?_
 rcases bem (decide (0≤((intK .i64).at ([a2,0,a2,0]:List Int) x1978))) with c1995 | c1995
 ·
  have H:=H.cf c1995
  refine Dv.gh (gh_sh 71 c1995 rfl) (fun _ _=>?_)
  refine Dv.gh (gh_sh 72 c1995 rfl) (fun _ _=>?_)
  refine Dv.gh (gh_sh 73 c1995 rfl) (fun _ _=>?_)
  refine sk rfl rfl<|sk rfl rfl<|sk rfl rfl<|sk rfl rfl<|sk rfl rfl<|pf0 rfl rfl rfl<|as0 rfl rfl<|.fin<|WP.seq<|WP.seq<|rg 18 0<|mv0 rfl rfl<|Dv.one0 (fun _=>SSelTicStaAllComSen.nn) rfl trivial rfl rfl Tryz.underlying25 (mem_at 0 rfl)<|mv0 rfl rfl<|bn0 rfl rfl rfl (run_bne Tryz.underlying4)<|mv0 rfl rfl ?_
  rcases bem ((!t1983.1.isNone) != false) with c2050 | c2050
  rotate_left
  ·
   have H:=H.ct c2050
   refine Dv.gh (gh_sh 83 c2050 rfl) (fun _ _=>?_)
   refine Dv.gh (gh_sh 84 c2050 rfl) (fun _ _=>?_)
   refine sk rfl rfl<|sk rfl rfl<|sk rfl rfl<|sk rfl rfl<|pt0 rfl rfl rfl<|mv0 rfl rfl<|sk rfl rfl<|sk rfl rfl<|sk rfl rfl<|sku rfl rfl<|sku rfl rfl<|sk rfl rfl<|pt0 rfl rfl rfl<|.fin<|WP.cond rfl (fun _=>?_) nofun
   refine WP.seq<|rg 1 0<|as0 rfl rfl<|.fin ?_
   have H:=H.outr
   cases H.out; exact rt i2 rfl () 2 [0,1] 1 (.cons (res_tmp rfl) .nil)
  have H:=H.cf c2050
  refine Dv.gh (gh_sh 83 c2050 rfl) (fun _ _=>?_)
  refine Dv.gh (gh_sh 84 c2050 rfl) (fun _ _=>?_)
  refine mvg rfl rfl rfl<|bng rfl rfl rfl rfl run_eq<|mvg rfl rfl rfl<|bng rfl rfl rfl rfl (run_bne Tryz.underlying4)<|pf0 rfl rfl rfl<|mv0 rfl rfl ?_
  rcases bem ((t1983.2 == 0) != false) with c2052 | c2052
  rotate_left
  ·
   have H:=H.ct c2052
   refine Dv.gh (gh_sh 88 c2052 rfl) (fun _ _=>?_)
   refine Dv.gh (gh_sh 89 c2052 rfl) (fun _ _=>?_)
   refine Dv.gh (gh_sh 90 c2052 rfl) (fun _ _=>?_)
   refine sk rfl rfl<|sk rfl rfl<|sk rfl rfl<|sku rfl rfl<|sku rfl rfl<|sk rfl rfl<|pt0 rfl rfl rfl<|.fin<|WP.cond rfl (fun _=>?_) nofun
   refine WP.seq<|rg 1 0<|as0 rfl rfl<|.fin ?_
   have H:=H.outr
   cases H.out; exact rt i2 rfl () 2 [0,1] 1 (.cons (res_tmp rfl) .nil)
  have H:=H.cf c2052
  refine Dv.gh (gh_sh 88 c2052 rfl) (fun _ _=>?_)
  refine Dv.gh (gh_sh 89 c2052 rfl) (fun _ _=>?_)
  refine Dv.gh (gh_sh 90 c2052 rfl) (fun _ _=>?_)
  refine mvg rfl rfl rfl<|ung rfl rfl rfl (run_not _)<|mvg rfl rfl rfl<|mvg rfl rfl rfl<|bng rfl rfl rfl rfl run_ne<|ptg rfl rfl rfl rfl<|pf0 rfl rfl rfl<|.fin<|cd H rfl (fun _ H=>?_) (fun _ H=>?_)
  ·
   refine WP.seq<|rg 1 0<|as0 rfl rfl<|.fin ?_
   have H:=H.outr
   cases H.out; exact rt i2 rfl () 2 [0,1] 1 (.cons (res_tmp rfl) .nil)
  refine WP.skip<|WP.seq<|WP.seq<|rg 2 0<|mv0 rfl rfl<|Dv.oeq0 (fun _=>SSelTicStaAllComSen.nn) rfl trivial rfl rfl Tryz.underlying25 (mem_at 0 rfl)<|.fin<|cd H rfl (fun _ H=>?_) (fun c2055 H=>?_)
  ·
   refine WP.exit<|rg 3 0<|mv0 rfl rfl<|bn0 rfl rfl rfl run_add<|as0 rfl rfl<|.fin<|ng (sg 2 [0,1] 1) fun _ _=>?_
   exact bk j2162 (w64 (x1978 + 1)) H
  refine wg (opt_some 0 rfl c2055) fun _ _=>?_
  refine WP.skip<|WP.seq<|dgo Tryz.checked.mixed [0,2,3,4,5,1,6,7,8,10,11,12,13,9,14,15,16,17,19,20,21,22,18,23,24,25,26,27,28,29,30,31,32,33,34] [1,9,18,27,32]<|mv0 rfl rfl<|mv0 rfl rfl<|mv0 rfl rfl<|gr H fun g2056 H=>Dv.ixr rfl trivial rfl rfl Tryz.underlying23 Tryz.underlying9 c9 g2056.1 g2056.2<|ldR rfl trivial rfl sc9 rfl<|el H fun t2057 h2058 H=>Dv.callx (pre:=[SSelTicStaAllComSen.O g1985 (t1983.1.getD default)]) (F:=[lax]++F) (fun _:Unit=>[SSelTicStaAllComSen.O g1985 (t1983.1.getD default),lax]++F) rfl trivial cal8 rfl (server_Server_Self.c h2058 (p0_:=g1985)) (perm_to (L:=[SSelTicStaAllComSen.O g1985 (t1983.1.getD default),lax]) (F:=F) [0,1] rfl rfl rfl) rfl (fun _=>pendc (pend_in (fun _=>trivial) (pend_in (fun _=>trivial) (pend_in (fun _=>trivial) (pend_in (fun _=>trivial) (pend_by (by kernel_rfl) pend_nil)))))) (fun _ _=>?_)
  refine bn0 rfl rfl rfl run_sne<|mv0 rfl rfl ?_
  cases c2059:!decide (t2057 = (strK.at ([t1971,(⟨#[115,49]⟩:ByteArray),(⟨#[115,49]⟩:ByteArray),t1973]:List ByteArray) x1978))
  rotate_left
  ·
   have H:=H.ct c2059
   refine sk rfl rfl<|sk rfl rfl<|sk rfl rfl<|sk rfl rfl<|sk rfl rfl<|Dv.skipb rfl ⟨_,_,rfl,rfl,.inl rfl⟩ (fun _=>(pend_in (fun _=>trivial) (pend_in (fun _=>trivial) (pend_in (fun _=>trivial) (pend_in (fun _=>trivial) (pend_by (by kernel_rfl) (pend_by (by kernel_rfl) (pend_by (by kernel_rfl) (pend_by (by kernel_rfl) (pend_by (by kernel_rfl) (pend_by (by kernel_rfl) (pend_by (by kernel_rfl) (pend_by (by kernel_rfl) pend_nil)))))))))))))<|sk rfl rfl<|pt0 rfl rfl rfl<|mv0 rfl rfl<|sk rfl rfl<|sk rfl rfl<|sk rfl rfl<|sk rfl rfl<|sk rfl rfl<|Dv.skipb rfl ⟨_,_,rfl,rfl,.inl rfl⟩ (fun _=>(pend_in (fun _=>trivial) (pend_in (fun _=>trivial) (pend_in (fun _=>trivial) (pend_in (fun _=>trivial) (pend_by (by kernel_rfl) (pend_by (by kernel_rfl) (pend_by (by kernel_rfl) (pend_by (by kernel_rfl) (pend_by (by kernel_rfl) (pend_by (by kernel_rfl) (pend_by (by kernel_rfl) (pend_by (by kernel_rfl) (pend_by (by kernel_rfl) (pend_by (by kernel_rfl) (pend_by (by kernel_rfl) (pend_by (by kernel_rfl) (pend_by (by kernel_rfl) (pend_by (by kernel_rfl) (pend_by (by kernel_rfl) (pend_by (by kernel_rfl) pend_nil)))))))))))))))))))))<|sk rfl rfl<|pt0 rfl rfl rfl<|mv0 rfl rfl<|sk rfl rfl<|Dv.skipb rfl ⟨_,_,rfl,rfl,.inl rfl⟩ (fun _=>pend_bits (by kernel_rfl))<|sk rfl rfl<|pt0 rfl rfl rfl<|mv0 rfl rfl<|sk rfl rfl<|Dv.skipb rfl ⟨_,_,rfl,rfl,.inl rfl⟩ (fun _=>pend_bits (by kernel_rfl))<|sk rfl rfl<|pt0 rfl rfl rfl<|.fin<|WP.cond rfl (fun _=>?_) nofun
   refine WP.seq<|rg 1 0<|as0 rfl rfl<|.fin ?_
   have H:=H.outr
   cases H.out; exact rt i2 rfl () 2 [0,1] 1 (.cons (res_tmp rfl) .nil)
  have H:=H.cf c2059
  refine mvg rfl rfl rfl<|mvg rfl rfl rfl<|mvg rfl rfl rfl<|gr H fun g2061 H=>Dv.ixr rfl (gg rfl) rfl rfl Tryz.underlying24 Tryz.underlying3 c3 g2061.1 g2061.2<|ldR rfl (gg rfl) rfl sc3 rfl<|el H fun t2062 h2063 H=>Dv.callx (pre:=[SSelTicStaAllComSen.O g1985 (t1983.1.getD default)]) (F:=[lax]++F) (fun _:Unit=>[SSelTicStaAllComSen.O g1985 (t1983.1.getD default),lax]++F) rfl (gg rfl) cal9 rfl (server_Server_Tick.c h2063 (p0_:=g1985)) (perm_to (L:=[SSelTicStaAllComSen.O g1985 (t1983.1.getD default),lax]) (F:=F) [0,1] rfl rfl rfl) rfl (fun _=>pendc (pend_in (fun _=>trivial) (pend_in (fun _=>trivial) (pend_in (fun _=>trivial) (pend_in (fun _=>trivial) (pend_by (by kernel_rfl) (pend_by (by kernel_rfl) (pend_by (by kernel_rfl) (pend_by (by kernel_rfl) (pend_by (by kernel_rfl) (pend_by (by kernel_rfl) (pend_by (by kernel_rfl) (pend_by (by kernel_rfl) pend_nil))))))))))))) (fun _ _=>?_)
  refine bng rfl rfl rfl rfl run_ne<|pf0 rfl rfl rfl<|mv0 rfl rfl ?_
  cases c2064:(t2062 != ((intK .i64).at ([a1,a1,0,0]:List Int) x1978))
  rotate_left
  ·
   have H:=H.ct c2064
   refine sk rfl rfl<|sk rfl rfl<|sk rfl rfl<|sk rfl rfl<|sk rfl rfl<|Dv.skipb rfl ⟨_,_,rfl,rfl,.inl rfl⟩ (fun _=>(pend_in (fun _=>trivial) (pend_in (fun _=>trivial) (pend_in (fun _=>trivial) (pend_in (fun _=>trivial) (pend_by (by kernel_rfl) (pend_by (by kernel_rfl) (pend_by (by kernel_rfl) (pend_by (by kernel_rfl) (pend_by (by kernel_rfl) (pend_by (by kernel_rfl) (pend_by (by kernel_rfl) (pend_by (by kernel_rfl) (pend_by (by kernel_rfl) (pend_by (by kernel_rfl) (pend_by (by kernel_rfl) (pend_by (by kernel_rfl) (pend_by (by kernel_rfl) (pend_by (by kernel_rfl) (pend_by (by kernel_rfl) (pend_by (by kernel_rfl) pend_nil)))))))))))))))))))))<|sk rfl rfl<|pt0 rfl rfl rfl<|mv0 rfl rfl<|sk rfl rfl<|Dv.skipb rfl ⟨_,_,rfl,rfl,.inl rfl⟩ (fun _=>pend_bits (by kernel_rfl))<|sk rfl rfl<|pt0 rfl rfl rfl<|mv0 rfl rfl<|sk rfl rfl<|Dv.skipb rfl ⟨_,_,rfl,rfl,.inl rfl⟩ (fun _=>pend_bits (by kernel_rfl))<|sk rfl rfl<|pt0 rfl rfl rfl<|.fin<|WP.cond rfl (fun _=>?_) nofun
   refine WP.seq<|rg 1 0<|as0 rfl rfl<|.fin ?_
   have H:=H.outr
   cases H.out; exact rt i2 rfl () 2 [0,1] 1 (.cons (res_tmp rfl) .nil)
  have H:=H.cf c2064
  refine mvg rfl rfl rfl<|mvg rfl rfl rfl<|mvg rfl rfl rfl<|gr H fun g2066 H=>Dv.ixr rfl (gg rfl) rfl rfl Tryz.underlying24 Tryz.underlying3 c3 g2066.1 g2066.2<|ldR rfl (gg rfl) rfl sc3 rfl<|el H fun t2067 h2068 H=>Dv.callx (pre:=[SSelTicStaAllComSen.O g1985 (t1983.1.getD default)]) (F:=[lax]++F) (fun _:Unit=>[SSelTicStaAllComSen.O g1985 (t1983.1.getD default),lax]++F) rfl (gg rfl) cal10 rfl (server_Server_Pos.c h2068 (p0_:=g1985)) (perm_to (L:=[SSelTicStaAllComSen.O g1985 (t1983.1.getD default),lax]) (F:=F) [0,1] rfl rfl rfl) rfl (fun _=>pendc (pend_in (fun _=>trivial) (pend_in (fun _=>trivial) (pend_in (fun _=>trivial) (pend_in (fun _=>trivial) (pend_by (by kernel_rfl) (pend_by (by kernel_rfl) (pend_by (by kernel_rfl) (pend_by (by kernel_rfl) (pend_by (by kernel_rfl) (pend_by (by kernel_rfl) (pend_by (by kernel_rfl) (pend_by (by kernel_rfl) (pend_by (by kernel_rfl) (pend_by (by kernel_rfl) (pend_by (by kernel_rfl) (pend_by (by kernel_rfl) (pend_by (by kernel_rfl) (pend_by (by kernel_rfl) (pend_by (by kernel_rfl) (pend_by (by kernel_rfl) pend_nil))))))))))))))))))))) (fun _ _=>?_)
  refine bng rfl rfl rfl rfl run_ne<|pf0 rfl rfl rfl<|mv0 rfl rfl ?_
  cases c2069:(t2067 != ((intK .i64).at ([a2,0,a2,0]:List Int) x1978))
  rotate_left
  ·
   have H:=H.ct c2069
   refine sk rfl rfl<|Dv.skipb rfl ⟨_,_,rfl,rfl,.inl rfl⟩ (fun _=>pend_bits (by kernel_rfl))<|sk rfl rfl<|pt0 rfl rfl rfl<|mv0 rfl rfl<|sk rfl rfl<|Dv.skipb rfl ⟨_,_,rfl,rfl,.inl rfl⟩ (fun _=>pend_bits (by kernel_rfl))<|sk rfl rfl<|pt0 rfl rfl rfl<|.fin<|WP.cond rfl (fun _=>?_) nofun
   refine WP.seq<|rg 1 0<|as0 rfl rfl<|.fin ?_
   have H:=H.outr
   cases H.out; exact rt i2 rfl () 2 [0,1] 1 (.cons (res_tmp rfl) .nil)
  have H:=H.cf c2069
  refine mvg rfl rfl rfl<|el H fun t2071 h2072 H=>cx 2 [0,1] cal11 (server_Server_Idle.c h2072 (p0_:=g1985)) pC fun _ _=>?_
  refine ung rfl rfl rfl (run_not _)<|pf0 rfl rfl rfl<|mv0 rfl rfl ?_
  cases c2073:!t2071
  rotate_left
  ·
   have H:=H.ct c2073
   refine sk rfl rfl<|Dv.skipb rfl ⟨_,_,rfl,rfl,.inl rfl⟩ (fun _=>pend_bits (by kernel_rfl))<|sk rfl rfl<|pt0 rfl rfl rfl<|.fin<|WP.cond rfl (fun _=>?_) nofun
   refine WP.seq<|rg 1 0<|as0 rfl rfl<|.fin ?_
   have H:=H.outr
   cases H.out; exact rt i2 rfl () 2 [0,1] 1 (.cons (res_tmp rfl) .nil)
  have H:=H.cf c2073
  refine mvg rfl rfl rfl<|el H fun t2075 h2076 H=>cx 2 [0,1] cal12 (server_Server_View.c h2076 (p0_:=g1985)) pC fun _ _=>?_
  refine Dv.npe rfl (gg rfl) rfl rfl Tryz.underlying33<|pf0 rfl rfl rfl<|.fin<|WP.cond rfl nofun (fun _=>?_)
  refine WP.skip<|rg 3 0<|mv0 rfl rfl<|bn0 rfl rfl rfl run_add<|as0 rfl rfl<|.fin<|ng (sg 2 [0,1] 1) fun _ _=>?_
  exact bk j2162 (w64 (x1978 + 1)) H
 have H:=H.ct c1995
 refine Dv.gh (gh_sh 71 c1995 rfl) (fun _ _=>?_)
 refine Dv.gh (gh_sh 72 c1995 rfl) (fun _ _=>?_)
 refine Dv.gh (gh_sh 73 c1995 rfl) (fun _ _=>?_)
 refine mvg rfl rfl rfl<|mvg rfl rfl rfl<|gr H fun g1996 H=>Dv.ixr rfl (gg rfl) rfl rfl Tryz.underlying24 Tryz.underlying3 c3 g1996.1 g1996.2<|ldR rfl (gg rfl) rfl sc3 rfl<|bng rfl rfl rfl rfl run_le<|pt0 rfl rfl rfl<|as0 rfl rfl<|.fin<|WP.seq<|WP.seq<|rg 18 0<|mv0 rfl rfl<|Dv.one0 (fun _=>SSelTicStaAllComSen.nn) rfl trivial rfl rfl Tryz.underlying25 (mem_at 0 rfl)<|mv0 rfl rfl<|bn0 rfl rfl rfl (run_bne Tryz.underlying4)<|mv0 rfl rfl ?_
 rcases bem ((!t1983.1.isNone) != (decide (((intK .i64).at ([a2,0,a2,0]:List Int) x1978)≤1099511627776))) with c1997 | c1997
 rotate_left
 ·
  have H:=H.ct c1997
  refine Dv.gh (gh_sh 83 c1997 rfl) (fun _ _=>?_)
  refine Dv.gh (gh_sh 84 c1997 rfl) (fun _ _=>?_)
  refine sk rfl rfl<|sk rfl rfl<|sk rfl rfl<|sk rfl rfl<|pt0 rfl rfl rfl<|mv0 rfl rfl<|sk rfl rfl<|sk rfl rfl<|sk rfl rfl<|sku rfl rfl<|sku rfl rfl<|sk rfl rfl<|pt0 rfl rfl rfl<|.fin<|WP.cond rfl (fun _=>?_) nofun
  refine WP.seq<|rg 1 0<|as0 rfl rfl<|.fin ?_
  have H:=H.outr
  cases H.out; exact rt i2 rfl () 2 [0,1] 1 (.cons (res_tmp rfl) .nil)
 have H:=H.cf c1997
 refine Dv.gh (gh_sh 83 c1997 rfl) (fun _ _=>?_)
 refine Dv.gh (gh_sh 84 c1997 rfl) (fun _ _=>?_)
 refine mvg rfl rfl rfl<|bng rfl rfl rfl rfl run_eq<|mvg rfl rfl rfl<|bng rfl rfl rfl rfl (run_bne Tryz.underlying4)<|pf0 rfl rfl rfl<|mv0 rfl rfl ?_
 rcases bem ((t1983.2 == 0) != (decide (((intK .i64).at ([a2,0,a2,0]:List Int) x1978)≤1099511627776))) with c1999 | c1999
 rotate_left
 ·
  have H:=H.ct c1999
  refine Dv.gh (gh_sh 88 c1999 rfl) (fun _ _=>?_)
  refine Dv.gh (gh_sh 89 c1999 rfl) (fun _ _=>?_)
  refine Dv.gh (gh_sh 90 c1999 rfl) (fun _ _=>?_)
  refine sk rfl rfl<|sk rfl rfl<|sk rfl rfl<|sku rfl rfl<|sku rfl rfl<|sk rfl rfl<|pt0 rfl rfl rfl<|.fin<|WP.cond rfl (fun _=>?_) nofun
  refine WP.seq<|rg 1 0<|as0 rfl rfl<|.fin ?_
  have H:=H.outr
  cases H.out; exact rt i2 rfl () 2 [0,1] 1 (.cons (res_tmp rfl) .nil)
 have H:=H.cf c1999
 refine Dv.gh (gh_sh 88 c1999 rfl) (fun _ _=>?_)
 refine Dv.gh (gh_sh 89 c1999 rfl) (fun _ _=>?_)
 refine Dv.gh (gh_sh 90 c1999 rfl) (fun _ _=>?_)
 refine mvg rfl rfl rfl<|ung rfl rfl rfl (run_not _)<|mvg rfl rfl rfl ?_
 rcases bem (!(decide (((intK .i64).at ([a2,0,a2,0]:List Int) x1978)≤1099511627776))) with c2001 | c2001
 ·
  have H:=H.cf c2001
  refine Dv.gh (gh_sh 92 c2001 rfl) (fun _ _=>?_)
  refine Dv.gh (gh_sh 93 c2001 rfl) (fun _ _=>?_)
  refine sk rfl rfl<|sk rfl rfl<|pfg rfl rfl rfl rfl<|pf0 rfl rfl rfl<|.fin<|WP.cond rfl nofun (fun _=>?_)
  refine WP.skip<|WP.seq<|WP.seq<|rg 2 0<|mv0 rfl rfl<|Dv.oeq0 (fun _=>SSelTicStaAllComSen.nn) rfl trivial rfl rfl Tryz.underlying25 (mem_at 0 rfl)<|.fin<|cd H rfl (fun _ H=>?_) (fun c2027 H=>?_)
  ·
   refine WP.exit<|rg 3 0<|mv0 rfl rfl<|bn0 rfl rfl rfl run_add<|as0 rfl rfl<|.fin<|ng (sg 2 [0,1] 1) fun _ _=>?_
   exact bk j2162 (w64 (x1978 + 1)) H
  refine wg (opt_some 0 rfl c2027) fun _ _=>?_
  refine WP.skip<|WP.seq<|dgo Tryz.checked.mixed [0,2,3,4,5,1,6,7,8,10,11,12,13,9,14,15,16,17,19,20,21,22,18,23,24,25,26,27,28,29,30,31,32,33,34] [1,9,18,27,32]<|mv0 rfl rfl<|mv0 rfl rfl<|mv0 rfl rfl<|gr H fun g2028 H=>Dv.ixr rfl trivial rfl rfl Tryz.underlying23 Tryz.underlying9 c9 g2028.1 g2028.2<|ldR rfl trivial rfl sc9 rfl<|el H fun t2029 h2030 H=>Dv.callx (pre:=[SSelTicStaAllComSen.O g1985 (t1983.1.getD default)]) (F:=[lax]++F) (fun _:Unit=>[SSelTicStaAllComSen.O g1985 (t1983.1.getD default),lax]++F) rfl trivial cal8 rfl (server_Server_Self.c h2030 (p0_:=g1985)) (perm_to (L:=[SSelTicStaAllComSen.O g1985 (t1983.1.getD default),lax]) (F:=F) [0,1] rfl rfl rfl) rfl (fun _=>pendc (pend_in (fun _=>trivial) (pend_in (fun _=>trivial) (pend_in (fun _=>trivial) (pend_in (fun _=>trivial) (pend_by (by kernel_rfl) pend_nil)))))) (fun _ _=>?_)
  refine bn0 rfl rfl rfl run_sne<|mv0 rfl rfl ?_
  cases c2031:!decide (t2029 = (strK.at ([t1971,(⟨#[115,49]⟩:ByteArray),(⟨#[115,49]⟩:ByteArray),t1973]:List ByteArray) x1978))
  rotate_left
  ·
   have H:=H.ct c2031
   refine sk rfl rfl<|sk rfl rfl<|sk rfl rfl<|sk rfl rfl<|sk rfl rfl<|Dv.skipb rfl ⟨_,_,rfl,rfl,.inl rfl⟩ (fun _=>(pend_in (fun _=>trivial) (pend_in (fun _=>trivial) (pend_in (fun _=>trivial) (pend_in (fun _=>trivial) (pend_by (by kernel_rfl) (pend_by (by kernel_rfl) (pend_by (by kernel_rfl) (pend_by (by kernel_rfl) (pend_by (by kernel_rfl) (pend_by (by kernel_rfl) (pend_by (by kernel_rfl) (pend_by (by kernel_rfl) pend_nil)))))))))))))<|sk rfl rfl<|pt0 rfl rfl rfl<|mv0 rfl rfl<|sk rfl rfl<|sk rfl rfl<|sk rfl rfl<|sk rfl rfl<|sk rfl rfl<|Dv.skipb rfl ⟨_,_,rfl,rfl,.inl rfl⟩ (fun _=>(pend_in (fun _=>trivial) (pend_in (fun _=>trivial) (pend_in (fun _=>trivial) (pend_in (fun _=>trivial) (pend_by (by kernel_rfl) (pend_by (by kernel_rfl) (pend_by (by kernel_rfl) (pend_by (by kernel_rfl) (pend_by (by kernel_rfl) (pend_by (by kernel_rfl) (pend_by (by kernel_rfl) (pend_by (by kernel_rfl) (pend_by (by kernel_rfl) (pend_by (by kernel_rfl) (pend_by (by kernel_rfl) (pend_by (by kernel_rfl) (pend_by (by kernel_rfl) (pend_by (by kernel_rfl) (pend_by (by kernel_rfl) (pend_by (by kernel_rfl) pend_nil)))))))))))))))))))))<|sk rfl rfl<|pt0 rfl rfl rfl<|mv0 rfl rfl<|sk rfl rfl<|Dv.skipb rfl ⟨_,_,rfl,rfl,.inl rfl⟩ (fun _=>pend_bits (by kernel_rfl))<|sk rfl rfl<|pt0 rfl rfl rfl<|mv0 rfl rfl<|sk rfl rfl<|Dv.skipb rfl ⟨_,_,rfl,rfl,.inl rfl⟩ (fun _=>pend_bits (by kernel_rfl))<|sk rfl rfl<|pt0 rfl rfl rfl<|.fin<|WP.cond rfl (fun _=>?_) nofun
   refine WP.seq<|rg 1 0<|as0 rfl rfl<|.fin ?_
   have H:=H.outr
   cases H.out; exact rt i2 rfl () 2 [0,1] 1 (.cons (res_tmp rfl) .nil)
  have H:=H.cf c2031
  refine mvg rfl rfl rfl<|mvg rfl rfl rfl<|mvg rfl rfl rfl<|gr H fun g2033 H=>Dv.ixr rfl (gg rfl) rfl rfl Tryz.underlying24 Tryz.underlying3 c3 g2033.1 g2033.2<|ldR rfl (gg rfl) rfl sc3 rfl<|el H fun t2034 h2035 H=>Dv.callx (pre:=[SSelTicStaAllComSen.O g1985 (t1983.1.getD default)]) (F:=[lax]++F) (fun _:Unit=>[SSelTicStaAllComSen.O g1985 (t1983.1.getD default),lax]++F) rfl (gg rfl) cal9 rfl (server_Server_Tick.c h2035 (p0_:=g1985)) (perm_to (L:=[SSelTicStaAllComSen.O g1985 (t1983.1.getD default),lax]) (F:=F) [0,1] rfl rfl rfl) rfl (fun _=>pendc (pend_in (fun _=>trivial) (pend_in (fun _=>trivial) (pend_in (fun _=>trivial) (pend_in (fun _=>trivial) (pend_by (by kernel_rfl) (pend_by (by kernel_rfl) (pend_by (by kernel_rfl) (pend_by (by kernel_rfl) (pend_by (by kernel_rfl) (pend_by (by kernel_rfl) (pend_by (by kernel_rfl) (pend_by (by kernel_rfl) pend_nil))))))))))))) (fun _ _=>?_)
  refine bng rfl rfl rfl rfl run_ne<|pf0 rfl rfl rfl<|mv0 rfl rfl ?_
  cases c2036:(t2034 != ((intK .i64).at ([a1,a1,0,0]:List Int) x1978))
  rotate_left
  ·
   have H:=H.ct c2036
   refine sk rfl rfl<|sk rfl rfl<|sk rfl rfl<|sk rfl rfl<|sk rfl rfl<|Dv.skipb rfl ⟨_,_,rfl,rfl,.inl rfl⟩ (fun _=>(pend_in (fun _=>trivial) (pend_in (fun _=>trivial) (pend_in (fun _=>trivial) (pend_in (fun _=>trivial) (pend_by (by kernel_rfl) (pend_by (by kernel_rfl) (pend_by (by kernel_rfl) (pend_by (by kernel_rfl) (pend_by (by kernel_rfl) (pend_by (by kernel_rfl) (pend_by (by kernel_rfl) (pend_by (by kernel_rfl) (pend_by (by kernel_rfl) (pend_by (by kernel_rfl) (pend_by (by kernel_rfl) (pend_by (by kernel_rfl) (pend_by (by kernel_rfl) (pend_by (by kernel_rfl) (pend_by (by kernel_rfl) (pend_by (by kernel_rfl) pend_nil)))))))))))))))))))))<|sk rfl rfl<|pt0 rfl rfl rfl<|mv0 rfl rfl<|sk rfl rfl<|Dv.skipb rfl ⟨_,_,rfl,rfl,.inl rfl⟩ (fun _=>pend_bits (by kernel_rfl))<|sk rfl rfl<|pt0 rfl rfl rfl<|mv0 rfl rfl<|sk rfl rfl<|Dv.skipb rfl ⟨_,_,rfl,rfl,.inl rfl⟩ (fun _=>pend_bits (by kernel_rfl))<|sk rfl rfl<|pt0 rfl rfl rfl<|.fin<|WP.cond rfl (fun _=>?_) nofun
   refine WP.seq<|rg 1 0<|as0 rfl rfl<|.fin ?_
   have H:=H.outr
   cases H.out; exact rt i2 rfl () 2 [0,1] 1 (.cons (res_tmp rfl) .nil)
  have H:=H.cf c2036
  refine mvg rfl rfl rfl<|mvg rfl rfl rfl<|mvg rfl rfl rfl<|gr H fun g2038 H=>Dv.ixr rfl (gg rfl) rfl rfl Tryz.underlying24 Tryz.underlying3 c3 g2038.1 g2038.2<|ldR rfl (gg rfl) rfl sc3 rfl<|el H fun t2039 h2040 H=>Dv.callx (pre:=[SSelTicStaAllComSen.O g1985 (t1983.1.getD default)]) (F:=[lax]++F) (fun _:Unit=>[SSelTicStaAllComSen.O g1985 (t1983.1.getD default),lax]++F) rfl (gg rfl) cal10 rfl (server_Server_Pos.c h2040 (p0_:=g1985)) (perm_to (L:=[SSelTicStaAllComSen.O g1985 (t1983.1.getD default),lax]) (F:=F) [0,1] rfl rfl rfl) rfl (fun _=>pendc (pend_in (fun _=>trivial) (pend_in (fun _=>trivial) (pend_in (fun _=>trivial) (pend_in (fun _=>trivial) (pend_by (by kernel_rfl) (pend_by (by kernel_rfl) (pend_by (by kernel_rfl) (pend_by (by kernel_rfl) (pend_by (by kernel_rfl) (pend_by (by kernel_rfl) (pend_by (by kernel_rfl) (pend_by (by kernel_rfl) (pend_by (by kernel_rfl) (pend_by (by kernel_rfl) (pend_by (by kernel_rfl) (pend_by (by kernel_rfl) (pend_by (by kernel_rfl) (pend_by (by kernel_rfl) (pend_by (by kernel_rfl) (pend_by (by kernel_rfl) pend_nil))))))))))))))))))))) (fun _ _=>?_)
  refine bng rfl rfl rfl rfl run_ne<|pf0 rfl rfl rfl<|mv0 rfl rfl ?_
  cases c2041:(t2039 != ((intK .i64).at ([a2,0,a2,0]:List Int) x1978))
  rotate_left
  ·
   have H:=H.ct c2041
   refine sk rfl rfl<|Dv.skipb rfl ⟨_,_,rfl,rfl,.inl rfl⟩ (fun _=>pend_bits (by kernel_rfl))<|sk rfl rfl<|pt0 rfl rfl rfl<|mv0 rfl rfl<|sk rfl rfl<|Dv.skipb rfl ⟨_,_,rfl,rfl,.inl rfl⟩ (fun _=>pend_bits (by kernel_rfl))<|sk rfl rfl<|pt0 rfl rfl rfl<|.fin<|WP.cond rfl (fun _=>?_) nofun
   refine WP.seq<|rg 1 0<|as0 rfl rfl<|.fin ?_
   have H:=H.outr
   cases H.out; exact rt i2 rfl () 2 [0,1] 1 (.cons (res_tmp rfl) .nil)
  have H:=H.cf c2041
  refine mvg rfl rfl rfl<|el H fun t2043 h2044 H=>cx 2 [0,1] cal11 (server_Server_Idle.c h2044 (p0_:=g1985)) pC fun _ _=>?_
  refine ung rfl rfl rfl (run_not _)<|pf0 rfl rfl rfl<|mv0 rfl rfl ?_
  cases c2045:!t2043
  rotate_left
  ·
   have H:=H.ct c2045
   refine sk rfl rfl<|Dv.skipb rfl ⟨_,_,rfl,rfl,.inl rfl⟩ (fun _=>pend_bits (by kernel_rfl))<|sk rfl rfl<|pt0 rfl rfl rfl<|.fin<|WP.cond rfl (fun _=>?_) nofun
   refine WP.seq<|rg 1 0<|as0 rfl rfl<|.fin ?_
   have H:=H.outr
   cases H.out; exact rt i2 rfl () 2 [0,1] 1 (.cons (res_tmp rfl) .nil)
  have H:=H.cf c2045
  refine mvg rfl rfl rfl<|el H fun t2047 h2048 H=>cx 2 [0,1] cal12 (server_Server_View.c h2048 (p0_:=g1985)) pC fun _ _=>?_
  refine Dv.npe rfl (gg rfl) rfl rfl Tryz.underlying33<|pf0 rfl rfl rfl<|.fin<|WP.cond rfl nofun (fun _=>?_)
  refine WP.skip<|rg 3 0<|mv0 rfl rfl<|bn0 rfl rfl rfl run_add<|as0 rfl rfl<|.fin<|ng (sg 2 [0,1] 1) fun _ _=>?_
  exact bk j2162 (w64 (x1978 + 1)) H
 have H:=H.ct c2001
 refine Dv.gh (gh_sh 92 c2001 rfl) (fun _ _=>?_)
 refine Dv.gh (gh_sh 93 c2001 rfl) (fun _ _=>?_)
 refine mvg rfl rfl rfl<|bng rfl rfl rfl rfl run_ne<|ptg rfl rfl rfl rfl<|pf0 rfl rfl rfl<|.fin<|cd H rfl (fun _ H=>?_) (fun _ H=>?_)
 ·
  refine WP.seq<|rg 1 0<|as0 rfl rfl<|.fin ?_
  have H:=H.outr
  cases H.out; exact rt i2 rfl () 2 [0,1] 1 (.cons (res_tmp rfl) .nil)
 refine WP.skip<|WP.seq<|WP.seq<|rg 2 0<|mv0 rfl rfl<|Dv.oeq0 (fun _=>SSelTicStaAllComSen.nn) rfl trivial rfl rfl Tryz.underlying25 (mem_at 0 rfl)<|.fin<|cd H rfl (fun _ H=>?_) (fun c2003 H=>?_)
 ·
  refine WP.exit<|rg 3 0<|mv0 rfl rfl<|bn0 rfl rfl rfl run_add<|as0 rfl rfl<|.fin<|ng (sg 2 [0,1] 1) fun _ _=>?_
  exact bk j2162 (w64 (x1978 + 1)) H
 refine wg (opt_some 0 rfl c2003) fun _ _=>?_
 refine WP.skip<|WP.seq<|dgo Tryz.checked.mixed [0,2,3,4,5,1,6,7,8,10,11,12,13,9,14,15,16,17,19,20,21,22,18,23,24,25,26,27,28,29,30,31,32,33,34] [1,9,18,27,32]<|mv0 rfl rfl<|mv0 rfl rfl<|mv0 rfl rfl<|gr H fun g2004 H=>Dv.ixr rfl trivial rfl rfl Tryz.underlying23 Tryz.underlying9 c9 g2004.1 g2004.2<|ldR rfl trivial rfl sc9 rfl<|el H fun t2005 h2006 H=>Dv.callx (pre:=[SSelTicStaAllComSen.O g1985 (t1983.1.getD default)]) (F:=[lax]++F) (fun _:Unit=>[SSelTicStaAllComSen.O g1985 (t1983.1.getD default),lax]++F) rfl trivial cal8 rfl (server_Server_Self.c h2006 (p0_:=g1985)) (perm_to (L:=[SSelTicStaAllComSen.O g1985 (t1983.1.getD default),lax]) (F:=F) [0,1] rfl rfl rfl) rfl (fun _=>pendc (pend_in (fun _=>trivial) (pend_in (fun _=>trivial) (pend_in (fun _=>trivial) (pend_in (fun _=>trivial) (pend_by (by kernel_rfl) pend_nil)))))) (fun _ _=>?_)
 refine bn0 rfl rfl rfl run_sne<|mv0 rfl rfl ?_
 cases c2007:!decide (t2005 = (strK.at ([t1971,(⟨#[115,49]⟩:ByteArray),(⟨#[115,49]⟩:ByteArray),t1973]:List ByteArray) x1978))
 rotate_left
 ·
  have H:=H.ct c2007
  refine sk rfl rfl<|sk rfl rfl<|sk rfl rfl<|sk rfl rfl<|sk rfl rfl<|Dv.skipb rfl ⟨_,_,rfl,rfl,.inl rfl⟩ (fun _=>(pend_in (fun _=>trivial) (pend_in (fun _=>trivial) (pend_in (fun _=>trivial) (pend_in (fun _=>trivial) (pend_by (by kernel_rfl) (pend_by (by kernel_rfl) (pend_by (by kernel_rfl) (pend_by (by kernel_rfl) (pend_by (by kernel_rfl) (pend_by (by kernel_rfl) (pend_by (by kernel_rfl) (pend_by (by kernel_rfl) pend_nil)))))))))))))<|sk rfl rfl<|pt0 rfl rfl rfl<|mv0 rfl rfl<|sk rfl rfl<|sk rfl rfl<|sk rfl rfl<|sk rfl rfl<|sk rfl rfl<|Dv.skipb rfl ⟨_,_,rfl,rfl,.inl rfl⟩ (fun _=>(pend_in (fun _=>trivial) (pend_in (fun _=>trivial) (pend_in (fun _=>trivial) (pend_in (fun _=>trivial) (pend_by (by kernel_rfl) (pend_by (by kernel_rfl) (pend_by (by kernel_rfl) (pend_by (by kernel_rfl) (pend_by (by kernel_rfl) (pend_by (by kernel_rfl) (pend_by (by kernel_rfl) (pend_by (by kernel_rfl) (pend_by (by kernel_rfl) (pend_by (by kernel_rfl) (pend_by (by kernel_rfl) (pend_by (by kernel_rfl) (pend_by (by kernel_rfl) (pend_by (by kernel_rfl) (pend_by (by kernel_rfl) (pend_by (by kernel_rfl) pend_nil)))))))))))))))))))))<|sk rfl rfl<|pt0 rfl rfl rfl<|mv0 rfl rfl<|sk rfl rfl<|Dv.skipb rfl ⟨_,_,rfl,rfl,.inl rfl⟩ (fun _=>pend_bits (by kernel_rfl))<|sk rfl rfl<|pt0 rfl rfl rfl<|mv0 rfl rfl<|sk rfl rfl<|Dv.skipb rfl ⟨_,_,rfl,rfl,.inl rfl⟩ (fun _=>pend_bits (by kernel_rfl))<|sk rfl rfl<|pt0 rfl rfl rfl<|.fin<|WP.cond rfl (fun _=>?_) nofun
  refine WP.seq<|rg 1 0<|as0 rfl rfl<|.fin ?_
  have H:=H.outr
  cases H.out; exact rt i2 rfl () 2 [0,1] 1 (.cons (res_tmp rfl) .nil)
 have H:=H.cf c2007
 refine mvg rfl rfl rfl<|mvg rfl rfl rfl<|mvg rfl rfl rfl<|gr H fun g2009 H=>Dv.ixr rfl (gg rfl) rfl rfl Tryz.underlying24 Tryz.underlying3 c3 g2009.1 g2009.2<|ldR rfl (gg rfl) rfl sc3 rfl<|el H fun t2010 h2011 H=>Dv.callx (pre:=[SSelTicStaAllComSen.O g1985 (t1983.1.getD default)]) (F:=[lax]++F) (fun _:Unit=>[SSelTicStaAllComSen.O g1985 (t1983.1.getD default),lax]++F) rfl (gg rfl) cal9 rfl (server_Server_Tick.c h2011 (p0_:=g1985)) (perm_to (L:=[SSelTicStaAllComSen.O g1985 (t1983.1.getD default),lax]) (F:=F) [0,1] rfl rfl rfl) rfl (fun _=>pendc (pend_in (fun _=>trivial) (pend_in (fun _=>trivial) (pend_in (fun _=>trivial) (pend_in (fun _=>trivial) (pend_by (by kernel_rfl) (pend_by (by kernel_rfl) (pend_by (by kernel_rfl) (pend_by (by kernel_rfl) (pend_by (by kernel_rfl) (pend_by (by kernel_rfl) (pend_by (by kernel_rfl) (pend_by (by kernel_rfl) pend_nil))))))))))))) (fun _ _=>?_)
 refine bng rfl rfl rfl rfl run_ne<|pf0 rfl rfl rfl<|mv0 rfl rfl ?_
 cases c2012:(t2010 != ((intK .i64).at ([a1,a1,0,0]:List Int) x1978))
 rotate_left
 ·
  have H:=H.ct c2012
  refine sk rfl rfl<|sk rfl rfl<|sk rfl rfl<|sk rfl rfl<|sk rfl rfl<|Dv.skipb rfl ⟨_,_,rfl,rfl,.inl rfl⟩ (fun _=>(pend_in (fun _=>trivial) (pend_in (fun _=>trivial) (pend_in (fun _=>trivial) (pend_in (fun _=>trivial) (pend_by (by kernel_rfl) (pend_by (by kernel_rfl) (pend_by (by kernel_rfl) (pend_by (by kernel_rfl) (pend_by (by kernel_rfl) (pend_by (by kernel_rfl) (pend_by (by kernel_rfl) (pend_by (by kernel_rfl) (pend_by (by kernel_rfl) (pend_by (by kernel_rfl) (pend_by (by kernel_rfl) (pend_by (by kernel_rfl) (pend_by (by kernel_rfl) (pend_by (by kernel_rfl) (pend_by (by kernel_rfl) (pend_by (by kernel_rfl) pend_nil)))))))))))))))))))))<|sk rfl rfl<|pt0 rfl rfl rfl<|mv0 rfl rfl<|sk rfl rfl<|Dv.skipb rfl ⟨_,_,rfl,rfl,.inl rfl⟩ (fun _=>pend_bits (by kernel_rfl))<|sk rfl rfl<|pt0 rfl rfl rfl<|mv0 rfl rfl<|sk rfl rfl<|Dv.skipb rfl ⟨_,_,rfl,rfl,.inl rfl⟩ (fun _=>pend_bits (by kernel_rfl))<|sk rfl rfl<|pt0 rfl rfl rfl<|.fin<|WP.cond rfl (fun _=>?_) nofun
  refine WP.seq<|rg 1 0<|as0 rfl rfl<|.fin ?_
  have H:=H.outr
  cases H.out; exact rt i2 rfl () 2 [0,1] 1 (.cons (res_tmp rfl) .nil)
 have H:=H.cf c2012
 refine mvg rfl rfl rfl<|mvg rfl rfl rfl<|mvg rfl rfl rfl<|gr H fun g2014 H=>Dv.ixr rfl (gg rfl) rfl rfl Tryz.underlying24 Tryz.underlying3 c3 g2014.1 g2014.2<|ldR rfl (gg rfl) rfl sc3 rfl<|el H fun t2015 h2016 H=>Dv.callx (pre:=[SSelTicStaAllComSen.O g1985 (t1983.1.getD default)]) (F:=[lax]++F) (fun _:Unit=>[SSelTicStaAllComSen.O g1985 (t1983.1.getD default),lax]++F) rfl (gg rfl) cal10 rfl (server_Server_Pos.c h2016 (p0_:=g1985)) (perm_to (L:=[SSelTicStaAllComSen.O g1985 (t1983.1.getD default),lax]) (F:=F) [0,1] rfl rfl rfl) rfl (fun _=>pendc (pend_in (fun _=>trivial) (pend_in (fun _=>trivial) (pend_in (fun _=>trivial) (pend_in (fun _=>trivial) (pend_by (by kernel_rfl) (pend_by (by kernel_rfl) (pend_by (by kernel_rfl) (pend_by (by kernel_rfl) (pend_by (by kernel_rfl) (pend_by (by kernel_rfl) (pend_by (by kernel_rfl) (pend_by (by kernel_rfl) (pend_by (by kernel_rfl) (pend_by (by kernel_rfl) (pend_by (by kernel_rfl) (pend_by (by kernel_rfl) (pend_by (by kernel_rfl) (pend_by (by kernel_rfl) (pend_by (by kernel_rfl) (pend_by (by kernel_rfl) pend_nil))))))))))))))))))))) (fun _ _=>?_)
 refine bng rfl rfl rfl rfl run_ne<|pf0 rfl rfl rfl<|mv0 rfl rfl ?_
 cases c2017:(t2015 != ((intK .i64).at ([a2,0,a2,0]:List Int) x1978))
 rotate_left
 ·
  have H:=H.ct c2017
  refine sk rfl rfl<|Dv.skipb rfl ⟨_,_,rfl,rfl,.inl rfl⟩ (fun _=>pend_bits (by kernel_rfl))<|sk rfl rfl<|pt0 rfl rfl rfl<|mv0 rfl rfl<|sk rfl rfl<|Dv.skipb rfl ⟨_,_,rfl,rfl,.inl rfl⟩ (fun _=>pend_bits (by kernel_rfl))<|sk rfl rfl<|pt0 rfl rfl rfl<|.fin<|WP.cond rfl (fun _=>?_) nofun
  refine WP.seq<|rg 1 0<|as0 rfl rfl<|.fin ?_
  have H:=H.outr
  cases H.out; exact rt i2 rfl () 2 [0,1] 1 (.cons (res_tmp rfl) .nil)
 have H:=H.cf c2017
 refine mvg rfl rfl rfl<|el H fun t2019 h2020 H=>cx 2 [0,1] cal11 (server_Server_Idle.c h2020 (p0_:=g1985)) pC fun _ _=>?_
 refine ung rfl rfl rfl (run_not _)<|pf0 rfl rfl rfl<|mv0 rfl rfl ?_
 cases c2021:!t2019
 rotate_left
 ·
  have H:=H.ct c2021
  refine sk rfl rfl<|Dv.skipb rfl ⟨_,_,rfl,rfl,.inl rfl⟩ (fun _=>pend_bits (by kernel_rfl))<|sk rfl rfl<|pt0 rfl rfl rfl<|.fin<|WP.cond rfl (fun _=>?_) nofun
  refine WP.seq<|rg 1 0<|as0 rfl rfl<|.fin ?_
  have H:=H.outr
  cases H.out; exact rt i2 rfl () 2 [0,1] 1 (.cons (res_tmp rfl) .nil)
 have H:=H.cf c2021
 refine mvg rfl rfl rfl<|el H fun t2023 h2024 H=>cx 2 [0,1] cal12 (server_Server_View.c h2024 (p0_:=g1985)) pC fun _ _=>?_
 refine Dv.npe rfl (gg rfl) rfl rfl Tryz.underlying33<|pf0 rfl rfl rfl<|.fin<|WP.cond rfl nofun (fun _=>?_)
 refine WP.skip<|rg 3 0<|mv0 rfl rfl<|bn0 rfl rfl rfl run_add<|as0 rfl rfl<|.fin<|ng (sg 2 [0,1] 1) fun _ _=>?_
 exact bk j2162 (w64 (x1978 + 1)) H
end Go.Proofs.YtelcbdmigiacpaaGreat
