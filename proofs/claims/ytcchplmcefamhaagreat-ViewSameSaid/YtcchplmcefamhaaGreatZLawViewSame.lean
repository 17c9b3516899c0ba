import Derived.Test.YtcchplmcefamhaaGreatZWalks2
import Derived.Test.YtcchplmcefamhaaGreatConQ
import Derived.Test.YtcchplmcefamhaaGreatConA6
import Derived.Test.YtcchplmcefamhaaGreatConC2
import Derived.Eval
set_option linter.all false
set_option maxRecDepth 10000
set_option maxHeartbeats 20000000
namespace Go.Proofs.YtcchplmcefamhaaGreat
open Go Go.Sp
theorem w10_ViewSame.c {k:Nat} {a0:List GMade} {a1:List GMade} {a2:List GMade} {r:Bool} (h:w10_ViewSame.f k a0 a1 a2 = some r):Pt Tryz.prog 3 [sl GMade.K a0,sl GMade.K a1,sl GMade.K a2] (vB r):=by
 unfold w10_ViewSame.f at h
 refine pb Tryz.func3 Tryz.ntmps3 h fun R0 F H=>?_
 refine WP.seq<|rg 1 0<|as0 rfl rfl<|.fin<|WP.seq<|rg 9 324<|mv0 rfl rfl<|mv0 rfl rfl<|el H fun t981 h982 H=>cx 0 [] cal4 (w10_build.c h982) nofun fun g983 _=>?_
 refine mv0 rfl rfl<|ex0 rfl trivial rfl rfl<|ex0 rfl trivial rfl rfl<|al rfl trivial zc26 nofun fun b984=>as0 rfl rfl<|sx 0 rfl trivial rfl rfl cA sz26 rfl rfl rfl nofun ?_
 refine .fin<|WP.seq<|rg 9 324<|mv0 rfl rfl<|mv0 rfl rfl<|el H fun t985 h986 H=>cx 2 [0,1] cal4 (w10_build.c h986) nofun fun g987 _=>?_
 refine mv0 rfl rfl<|ex0 rfl trivial rfl rfl<|ex0 rfl trivial rfl rfl<|al rfl trivial zc26 nofun fun b988=>as0 rfl rfl<|sx 0 rfl trivial rfl rfl cA sz26 rfl rfl rfl nofun ?_
 refine .fin<|WP.seq<|WP.dgf (kf:=14) Tryz.checked.mixed [(0,false),(1,false),(2,false),(3,false),(4,false),(5,false),(6,false),(7,false),(8,false),(9,false),(10,true),(11,false),(12,false),(13,false)] [(15,false),(16,true)] rfl (by kernel_rfl)<|mv0 rfl rfl<|mv0 rfl rfl<|Dv.lenl rfl trivial rfl Tryz.underlying22<|Dv.mini rfl trivial rfl rfl<|gr H fun g989 H=>Dv.sls rfl trivial rfl Tryz.underlying22 Tryz.underlying74 c74 bdE_none (bdE_some rfl g989.1) g989.2.1 g989.2.2<|mv0 rfl rfl<|mv0 rfl rfl<|Dv.lenl rfl trivial rfl Tryz.underlying22<|Dv.mini rfl trivial rfl rfl<|gr H fun g990 H=>Dv.sls rfl trivial rfl Tryz.underlying22 Tryz.underlying74 c74 bdE_none (bdE_some rfl g990.1) g990.2.1 g990.2.2<|Dv.float ?_ (fun hk_=>?_)
 ·
  refine up_al rfl trivial zc26 (all1 (fun _=>trivial) (all1 (fun _=>trivial) (all1 (fun _=>trivial) (all1 (fun _=>trivial) (all1 (fun _=>trivial) (all1 (fun _=>trivial) (all1 (fun _=>trivial) (all1 (fun _=>trivial) (all1 (fun _=>trivial) (all1 (fun _=>trivial) all0)))))))))) (fun b991=>?_)
  refine el H fun t992 h993 H=>cx 5 [0,1,2,3,4] cal4 (w10_build.c h993) pC fun g994 _=>?_
  refine mv0 rfl rfl<|ex0 rfl trivial rfl rfl<|ex0 rfl trivial rfl rfl<|as0 rfl rfl<|sx 1 rfl trivial rfl rfl cA sz26 rfl rfl rfl pB ?_
  refine .fin<|WP.seq<|WP.seq<|rg 10 0<|mv0 rfl rfl<|Dv.oeq0 (fun _=>VView.nn) rfl trivial rfl rfl Tryz.underlying23 (mem_at 5 rfl)<|mv0 rfl rfl ?_
  cases c995:t981.1.isNone
  rotate_left
  ·
   have H:=H.ct c995
   refine sk rfl rfl<|sk rfl rfl<|pt0 rfl rfl rfl<|mv0 rfl rfl<|sk rfl rfl<|sk rfl rfl<|pt0 rfl rfl rfl<|.fin<|WP.cond rfl (fun _=>?_) nofun
   refine WP.seq<|rg 1 0<|as0 rfl rfl<|.fin ?_
   cases H.out; exact rt i2 rfl () 6 [0,1,2,3,4,5] 6 (.cons (res_tmp rfl) .nil)
  have H:=H.cf c995
  refine mvg rfl rfl rfl<|Dv.oeq0 (fun _=>VView.nn) rfl (gg rfl) rfl rfl Tryz.underlying23 (mem_at 3 rfl)<|pf0 rfl rfl rfl<|mv0 rfl rfl ?_
  cases c997:t985.1.isNone
  rotate_left
  ·
   have H:=H.ct c997
   refine sk rfl rfl<|sk rfl rfl<|pt0 rfl rfl rfl<|.fin<|WP.cond rfl (fun _=>?_) nofun
   refine WP.seq<|wg (opt_some 5 rfl c995) fun _ _=>?_
   refine rg 1 0<|as0 rfl rfl<|.fin ?_
   cases H.out; exact rt i2 rfl () 6 [0,1,2,3,4,5] 6 (.cons (res_tmp rfl) .nil)
  have H:=H.cf c997
  refine mvg rfl rfl rfl<|Dv.oeq0 (fun _=>VView.nn) rfl (gg rfl) rfl rfl Tryz.underlying23 (mem_at 0 rfl)<|pf0 rfl rfl rfl<|.fin<|cd H rfl (fun _ H=>?_) (fun c999 H=>?_)
  ·
   refine WP.seq<|wg (opt_some 3 rfl c997) fun _ _=>?_
   refine wg (opt_some 5 rfl c995) fun _ _=>?_
   refine rg 1 0<|as0 rfl rfl<|.fin ?_
   cases H.out; exact rt i2 rfl () 6 [0,1,2,3,4,5] 6 (.cons (res_tmp rfl) .nil)
  refine wg (opt_some 0 rfl c999) fun _ _=>?_
  refine WP.skip<|WP.seq<|wg (opt_some 3 rfl c997) fun _ _=>?_
  refine wg (opt_some 5 rfl c995) fun _ _=>?_
  refine dgo Tryz.checked.mixed [0,1,3,4,2,5,6,7,8,9,11,12,10,13,14,15,16,17,18,20,21,19,22,23,24,25,26,27,28,29,30,31,32,33] [2,10,19,28]<|mv0 rfl rfl<|mv0 rfl rfl<|lds 5 rfl trivial rfl sg26 rfl rfl<|lds 4 rfl trivial rfl sg26 rfl rfl<|el H fun t1000 h1001 H=>Dv.callx (pre:=[VView.O g983 (t981.1.getD default),VView.O g987 (t985.1.getD default)]) (F:=[VView.O g994 (t992.1.getD default),blk b991 26 (RView.enc t992.2),blk b988 26 (RView.enc t985.2),blk b984 26 (RView.enc t981.2)]++F) (fun _:Unit=>[VView.O g983 (t981.1.getD default),VView.O g987 (t985.1.getD default),VView.O g994 (t992.1.getD default),blk b991 26 (RView.enc t992.2),blk b988 26 (RView.enc t985.2),blk b984 26 (RView.enc t981.2)]++F) rfl trivial cal5 rfl (view_View_Same.c h1001 (p0_:=g983) (p1_:=g987)) (perm_to (L:=[VView.O g983 (t981.1.getD default),VView.O g987 (t985.1.getD default),VView.O g994 (t992.1.getD default),blk b991 26 (RView.enc t992.2),blk b988 26 (RView.enc t985.2),blk b984 26 (RView.enc t981.2)]) (F:=F) [0,1,2,3,4,5] (by kernel_rfl) rfl rfl) rfl (fun _=>pendc (pend_in (fun _=>(mem_at 4 rfl)) (pend_in (fun _=>(mem_at 5 rfl)) (pend_by (by kernel_rfl) (pend_by (by kernel_rfl) pend_nil))))) (fun _ _=>?_)
  refine el H fun t1002 h1003 H=>cl rfl cal6 rfl (r10_Same.c h1003)<|bn0 rfl rfl rfl (run_beq Tryz.underlying4)<|mv0 rfl rfl ?_
  cases c1004:(t1000 == t1002)
  ·
   have H:=H.cf c1004
   refine sk rfl rfl<|sk rfl rfl<|sk rfl rfl<|sk rfl rfl<|Dv.skipb rfl ⟨_,_,rfl,rfl,.inl rfl⟩ (fun _=>(pend_in (fun _=>trivial) (pend_in (fun _=>trivial) (pend_by (by kernel_rfl) (pend_by (by kernel_rfl) (pend_by (by kernel_rfl) (pend_by (by kernel_rfl) (pend_by (by kernel_rfl) (pend_by (by kernel_rfl) (pend_by (by kernel_rfl) (pend_by (by kernel_rfl) (pend_by (by kernel_rfl) pend_nil))))))))))))<|sk rfl rfl<|sk rfl rfl<|pf0 rfl rfl rfl<|mv0 rfl rfl<|sk rfl rfl<|sk rfl rfl<|sk rfl rfl<|sk rfl rfl<|Dv.skipb rfl ⟨_,_,rfl,rfl,.inl rfl⟩ (fun _=>(pend_in (fun _=>trivial) (pend_in (fun _=>trivial) (pend_by (by kernel_rfl) (pend_by (by kernel_rfl) (pend_by (by kernel_rfl) (pend_by (by kernel_rfl) (pend_by (by kernel_rfl) (pend_by (by kernel_rfl) (pend_by (by kernel_rfl) (pend_by (by kernel_rfl) (pend_by (by kernel_rfl) (pend_by (by kernel_rfl) (pend_by (by kernel_rfl) (pend_by (by kernel_rfl) (pend_by (by kernel_rfl) (pend_by (by kernel_rfl) (pend_by (by kernel_rfl) (pend_by (by kernel_rfl) (pend_by (by kernel_rfl) pend_nil))))))))))))))))))))<|sk rfl rfl<|sk rfl rfl<|pf0 rfl rfl rfl<|mv0 rfl rfl<|sk rfl rfl<|sk rfl rfl<|Dv.skipb rfl ⟨_,_,rfl,rfl,.inl rfl⟩ (fun _=>pend_bits (by kernel_rfl))<|pf0 rfl rfl rfl<|mv0 rfl rfl<|sk rfl rfl<|pf0 rfl rfl rfl<|as0 rfl rfl<|.fin ?_
   cases H.out; exact rt i2 rfl () 6 [0,1,2,3,4,5] 6 (.cons (res_tmp rfl) .nil)
  have H:=H.ct c1004
  refine mvg rfl rfl rfl<|mvg rfl rfl rfl<|lds 5 rfl (gg rfl) rfl sg26 rfl rfl<|lds 4 rfl (gg rfl) rfl sg26 rfl rfl<|el H fun t1005 h1006 H=>Dv.callx (pre:=[VView.O g987 (t985.1.getD default),VView.O g983 (t981.1.getD default)]) (F:=[VView.O g994 (t992.1.getD default),blk b991 26 (RView.enc t992.2),blk b988 26 (RView.enc t985.2),blk b984 26 (RView.enc t981.2)]++F) (fun _:Unit=>[VView.O g987 (t985.1.getD default),VView.O g983 (t981.1.getD default),VView.O g994 (t992.1.getD default),blk b991 26 (RView.enc t992.2),blk b988 26 (RView.enc t985.2),blk b984 26 (RView.enc t981.2)]++F) rfl (gg rfl) cal5 rfl (view_View_Same.c h1006 (p0_:=g987) (p1_:=g983)) (perm_to (L:=[VView.O g983 (t981.1.getD default),VView.O g987 (t985.1.getD default),VView.O g994 (t992.1.getD default),blk b991 26 (RView.enc t992.2),blk b988 26 (RView.enc t985.2),blk b984 26 (RView.enc t981.2)]) (F:=F) [1,0,2,3,4,5] (by kernel_rfl) rfl rfl) rfl (fun _=>pendc (pend_in (fun _=>(mem_at 4 rfl)) (pend_in (fun _=>(mem_at 5 rfl)) (pend_by (by kernel_rfl) (pend_by (by kernel_rfl) (pend_by (by kernel_rfl) (pend_by (by kernel_rfl) (pend_by (by kernel_rfl) (pend_by (by kernel_rfl) (pend_by (by kernel_rfl) (pend_by (by kernel_rfl) (pend_by (by kernel_rfl) pend_nil)))))))))))) (fun _ _=>?_)
  refine el H fun t1007 h1008 H=>Dv.call rfl (gg rfl) cal6 rfl (r10_Same.c h1008)<|bng rfl rfl rfl rfl (run_beq Tryz.underlying4)<|pt0 rfl rfl rfl<|mv0 rfl rfl ?_
  cases c1009:(t1005 == t1007)
  ·
   have H:=H.cf c1009
   refine sk rfl rfl<|sk rfl rfl<|sk rfl rfl<|sk rfl rfl<|Dv.skipb rfl ⟨_,_,rfl,rfl,.inl rfl⟩ (fun _=>(pend_in (fun _=>trivial) (pend_in (fun _=>trivial) (pend_by (by kernel_rfl) (pend_by (by kernel_rfl) (pend_by (by kernel_rfl) (pend_by (by kernel_rfl) (pend_by (by kernel_rfl) (pend_by (by kernel_rfl) (pend_by (by kernel_rfl) (pend_by (by kernel_rfl) (pend_by (by kernel_rfl) (pend_by (by kernel_rfl) (pend_by (by kernel_rfl) (pend_by (by kernel_rfl) (pend_by (by kernel_rfl) (pend_by (by kernel_rfl) (pend_by (by kernel_rfl) (pend_by (by kernel_rfl) (pend_by (by kernel_rfl) pend_nil))))))))))))))))))))<|sk rfl rfl<|sk rfl rfl<|pf0 rfl rfl rfl<|mv0 rfl rfl<|sk rfl rfl<|sk rfl rfl<|Dv.skipb rfl ⟨_,_,rfl,rfl,.inl rfl⟩ (fun _=>pend_bits (by kernel_rfl))<|pf0 rfl rfl rfl<|mv0 rfl rfl<|sk rfl rfl<|pf0 rfl rfl rfl<|as0 rfl rfl<|.fin ?_
   cases H.out; exact rt i2 rfl () 6 [0,1,2,3,4,5] 6 (.cons (res_tmp rfl) .nil)
  have H:=H.ct c1009
  refine mvg rfl rfl rfl<|mvg rfl rfl rfl<|lds 5 rfl (gg rfl) rfl sg26 rfl rfl<|lds 3 rfl (gg rfl) rfl sg26 rfl rfl<|el H fun t1010 h1011 H=>Dv.callx (pre:=[VView.O g983 (t981.1.getD default),VView.O g994 (t992.1.getD default)]) (F:=[VView.O g987 (t985.1.getD default),blk b991 26 (RView.enc t992.2),blk b988 26 (RView.enc t985.2),blk b984 26 (RView.enc t981.2)]++F) (fun _:Unit=>[VView.O g983 (t981.1.getD default),VView.O g994 (t992.1.getD default),VView.O g987 (t985.1.getD default),blk b991 26 (RView.enc t992.2),blk b988 26 (RView.enc t985.2),blk b984 26 (RView.enc t981.2)]++F) rfl (gg rfl) cal5 rfl (view_View_Same.c h1011 (p0_:=g983) (p1_:=g994)) (perm_to (L:=[VView.O g987 (t985.1.getD default),VView.O g983 (t981.1.getD default),VView.O g994 (t992.1.getD default),blk b991 26 (RView.enc t992.2),blk b988 26 (RView.enc t985.2),blk b984 26 (RView.enc t981.2)]) (F:=F) [1,2,0,3,4,5] (by kernel_rfl) rfl rfl) rfl (fun _=>pendc (pend_in (fun _=>(mem_at 3 rfl)) (pend_in (fun _=>(mem_at 5 rfl)) (pend_by (by kernel_rfl) (pend_by (by kernel_rfl) (pend_by (by kernel_rfl) (pend_by (by kernel_rfl) (pend_by (by kernel_rfl) (pend_by (by kernel_rfl) (pend_by (by kernel_rfl) (pend_by (by kernel_rfl) (pend_by (by kernel_rfl) (pend_by (by kernel_rfl) (pend_by (by kernel_rfl) (pend_by (by kernel_rfl) (pend_by (by kernel_rfl) (pend_by (by kernel_rfl) (pend_by (by kernel_rfl) (pend_by (by kernel_rfl) (pend_by (by kernel_rfl) pend_nil)))))))))))))))))))) (fun _ _=>?_)
  refine el H fun t1012 h1013 H=>Dv.call rfl (gg rfl) cal6 rfl (r10_Same.c h1013)<|bng rfl rfl rfl rfl (run_beq Tryz.underlying4)<|pt0 rfl rfl rfl<|mv0 rfl rfl ?_
  cases c1014:(t1010 == t1012)
  ·
   have H:=H.cf c1014
   refine sk rfl rfl<|sk rfl rfl<|Dv.skipb rfl ⟨_,_,rfl,rfl,.inl rfl⟩ (fun _=>pend_bits (by kernel_rfl))<|pf0 rfl rfl rfl<|mv0 rfl rfl<|sk rfl rfl<|pf0 rfl rfl rfl<|as0 rfl rfl<|.fin ?_
   cases H.out; exact rt i2 rfl () 6 [0,1,2,3,4,5] 6 (.cons (res_tmp rfl) .nil)
  have H:=H.ct c1014
  refine mvg rfl rfl rfl<|mvg rfl rfl rfl<|el H fun t1015 h1016 H=>cx 6 [0,1,2,3,4,5] cal5 (view_View_Same_self.c h1016 (p0_:=g983)) pC fun _ _=>?_
  refine pt0 rfl rfl rfl<|mv0 rfl rfl ?_
  cases c1017:t1015
  ·
   have H:=H.cf c1017
   refine sk rfl rfl<|pf0 rfl rfl rfl<|as0 rfl rfl<|.fin ?_
   cases H.out; exact rt i2 rfl () 6 [0,1,2,3,4,5] 6 (.cons (res_tmp rfl) .nil)
  have H:=H.ct c1017
  refine el H fun t1018 h1019 H=>Dv.call rfl (gg rfl) cal7 rfl (w10_lives.c h1019)<|pt0 rfl rfl rfl<|as0 rfl rfl<|.fin ?_
  cases H.out; exact rt i2 rfl () 6 [0,1,2,3,4,5] 6 (.cons (res_tmp rfl) .nil)
 refine el H fun t991 h992 H=>cx 4 [0,1,2,3] cal4 (w10_build.c h992) pC fun g993 _=>?_
 refine mv0 rfl rfl<|ex0 rfl trivial rfl rfl<|ex0 rfl trivial rfl rfl<|.fin<|up_al rfl trivial zc26 (all1 (fun _=>trivial) (all1 (fun _=>trivial) (all1 (fun _=>trivial) (allp (by kernel_rfl) (allp (by kernel_rfl) (allp (by kernel_rfl) (allp (by kernel_rfl) (allp (by kernel_rfl) (allp (by kernel_rfl) (allp (by kernel_rfl) (allp (by kernel_rfl) (allp (by kernel_rfl) (allp (by kernel_rfl) all0))))))))))))) (fun b994=>?_)
 refine as0 rfl rfl<|sx 0 rfl trivial rfl rfl cA sz26 rfl rfl rfl pB ?_
 refine .fin<|WP.seq<|WP.seq<|rg 10 0<|mv0 rfl rfl<|Dv.oeq0 (fun _=>VView.nn) rfl trivial rfl rfl Tryz.underlying23 (mem_at 5 rfl)<|mv0 rfl rfl ?_
 cases c995:t981.1.isNone
 rotate_left
 ·
  have H:=H.ct c995
  refine sk rfl rfl<|sk rfl rfl<|pt0 rfl rfl rfl<|mv0 rfl rfl<|sk rfl rfl<|sk rfl rfl<|pt0 rfl rfl rfl<|.fin<|WP.cond rfl (fun _=>?_) nofun
  refine WP.seq<|rg 1 0<|as0 rfl rfl<|.fin ?_
  cases H.out; exact rt i2 rfl () 6 [0,1,2,3,4,5] 6 (.cons (res_tmp rfl) .nil)
 have H:=H.cf c995
 refine mvg rfl rfl rfl<|Dv.oeq0 (fun _=>VView.nn) rfl (gg rfl) rfl rfl Tryz.underlying23 (mem_at 3 rfl)<|pf0 rfl rfl rfl<|mv0 rfl rfl ?_
 cases c997:t985.1.isNone
 rotate_left
 ·
  have H:=H.ct c997
  refine sk rfl rfl<|sk rfl rfl<|pt0 rfl rfl rfl<|.fin<|WP.cond rfl (fun _=>?_) nofun
  refine WP.seq<|wg (opt_some 5 rfl c995) fun _ _=>?_
  refine rg 1 0<|as0 rfl rfl<|.fin ?_
  cases H.out; exact rt i2 rfl () 6 [0,1,2,3,4,5] 6 (.cons (res_tmp rfl) .nil)
 have H:=H.cf c997
 refine mvg rfl rfl rfl<|Dv.oeq0 (fun _=>VView.nn) rfl (gg rfl) rfl rfl Tryz.underlying23 (mem_at 1 rfl)<|pf0 rfl rfl rfl<|.fin<|cd H rfl (fun _ H=>?_) (fun c999 H=>?_)
 ·
  refine WP.seq<|wg (opt_some 3 rfl c997) fun _ _=>?_
  refine wg (opt_some 5 rfl c995) fun _ _=>?_
  refine rg 1 0<|as0 rfl rfl<|.fin ?_
  cases H.out; exact rt i2 rfl () 6 [0,1,2,3,4,5] 6 (.cons (res_tmp rfl) .nil)
 refine wg (opt_some 1 rfl c999) fun _ _=>?_
 refine WP.skip<|WP.seq<|wg (opt_some 3 rfl c997) fun _ _=>?_
 refine wg (opt_some 5 rfl c995) fun _ _=>?_
 refine dgo Tryz.checked.mixed [0,1,3,4,2,5,6,7,8,9,11,12,10,13,14,15,16,17,18,20,21,19,22,23,24,25,26,27,28,29,30,31,32,33] [2,10,19,28]<|mv0 rfl rfl<|mv0 rfl rfl<|lds 5 rfl trivial rfl sg26 rfl rfl<|lds 4 rfl trivial rfl sg26 rfl rfl<|el H fun t1000 h1001 H=>Dv.callx (pre:=[VView.O g983 (t981.1.getD default),VView.O g987 (t985.1.getD default)]) (F:=[VView.O g993 (t991.1.getD default),blk b994 26 (RView.enc t991.2),blk b988 26 (RView.enc t985.2),blk b984 26 (RView.enc t981.2)]++F) (fun _:Unit=>[VView.O g983 (t981.1.getD default),VView.O g987 (t985.1.getD default),VView.O g993 (t991.1.getD default),blk b994 26 (RView.enc t991.2),blk b988 26 (RView.enc t985.2),blk b984 26 (RView.enc t981.2)]++F) rfl trivial cal5 rfl (view_View_Same.c h1001 (p0_:=g983) (p1_:=g987)) (perm_to (L:=[VView.O g983 (t981.1.getD default),VView.O g987 (t985.1.getD default),VView.O g993 (t991.1.getD default),blk b994 26 (RView.enc t991.2),blk b988 26 (RView.enc t985.2),blk b984 26 (RView.enc t981.2)]) (F:=F) [0,1,2,3,4,5] (by kernel_rfl) rfl rfl) rfl (fun _=>pendc (pend_in (fun _=>(mem_at 4 rfl)) (pend_in (fun _=>(mem_at 5 rfl)) (pend_by (by kernel_rfl) (pend_by (by kernel_rfl) pend_nil))))) (fun _ _=>?_)
 refine el H fun t1002 h1003 H=>cl rfl cal6 rfl (r10_Same.c h1003)<|bn0 rfl rfl rfl (run_beq Tryz.underlying4)<|mv0 rfl rfl ?_
 cases c1004:(t1000 == t1002)
 ·
  have H:=H.cf c1004
  refine sk rfl rfl<|sk rfl rfl<|sk rfl rfl<|sk rfl rfl<|Dv.skipb rfl ⟨_,_,rfl,rfl,.inl rfl⟩ (fun _=>(pend_in (fun _=>trivial) (pend_in (fun _=>trivial) (pend_by (by kernel_rfl) (pend_by (by kernel_rfl) (pend_by (by kernel_rfl) (pend_by (by kernel_rfl) (pend_by (by kernel_rfl) (pend_by (by kernel_rfl) (pend_by (by kernel_rfl) (pend_by (by kernel_rfl) (pend_by (by kernel_rfl) pend_nil))))))))))))<|sk rfl rfl<|sk rfl rfl<|pf0 rfl rfl rfl<|mv0 rfl rfl<|sk rfl rfl<|sk rfl rfl<|sk rfl rfl<|sk rfl rfl<|Dv.skipb rfl ⟨_,_,rfl,rfl,.inl rfl⟩ (fun _=>(pend_in (fun _=>trivial) (pend_in (fun _=>trivial) (pend_by (by kernel_rfl) (pend_by (by kernel_rfl) (pend_by (by kernel_rfl) (pend_by (by kernel_rfl) (pend_by (by kernel_rfl) (pend_by (by kernel_rfl) (pend_by (by kernel_rfl) (pend_by (by kernel_rfl) (pend_by (by kernel_rfl) (pend_by (by kernel_rfl) (pend_by (by kernel_rfl) (pend_by (by kernel_rfl) (pend_by (by kernel_rfl) (pend_by (by kernel_rfl) (pend_by (by kernel_rfl) (pend_by (by kernel_rfl) (pend_by (by kernel_rfl) pend_nil))))))))))))))))))))<|sk rfl rfl<|sk rfl rfl<|pf0 rfl rfl rfl<|mv0 rfl rfl<|sk rfl rfl<|sk rfl rfl<|Dv.skipb rfl ⟨_,_,rfl,rfl,.inl rfl⟩ (fun _=>pend_bits (by kernel_rfl))<|pf0 rfl rfl rfl<|mv0 rfl rfl<|sk rfl rfl<|pf0 rfl rfl rfl<|as0 rfl rfl<|.fin ?_
  cases H.out; exact rt i2 rfl () 6 [0,1,2,3,4,5] 6 (.cons (res_tmp rfl) .nil)
 have H:=H.ct c1004
 refine mvg rfl rfl rfl<|mvg rfl rfl rfl<|lds 5 rfl (gg rfl) rfl sg26 rfl rfl<|lds 4 rfl (gg rfl) rfl sg26 rfl rfl<|el H fun t1005 h1006 H=>Dv.callx (pre:=[VView.O g987 (t985.1.getD default),VView.O g983 (t981.1.getD default)]) (F:=[VView.O g993 (t991.1.getD default),blk b994 26 (RView.enc t991.2),blk b988 26 (RView.enc t985.2),blk b984 26 (RView.enc t981.2)]++F) (fun _:Unit=>[VView.O g987 (t985.1.getD default),VView.O g983 (t981.1.getD default),VView.O g993 (t991.1.getD default),blk b994 26 (RView.enc t991.2),blk b988 26 (RView.enc t985.2),blk b984 26 (RView.enc t981.2)]++F) rfl (gg rfl) cal5 rfl (view_View_Same.c h1006 (p0_:=g987) (p1_:=g983)) (perm_to (L:=[VView.O g983 (t981.1.getD default),VView.O g987 (t985.1.getD default),VView.O g993 (t991.1.getD default),blk b994 26 (RView.enc t991.2),blk b988 26 (RView.enc t985.2),blk b984 26 (RView.enc t981.2)]) (F:=F) [1,0,2,3,4,5] (by kernel_rfl) rfl rfl) rfl (fun _=>pendc (pend_in (fun _=>(mem_at 4 rfl)) (pend_in (fun _=>(mem_at 5 rfl)) (pend_by (by kernel_rfl) (pend_by (by kernel_rfl) (pend_by (by kernel_rfl) (pend_by (by kernel_rfl) (pend_by (by kernel_rfl) (pend_by (by kernel_rfl) (pend_by (by kernel_rfl) (pend_by (by kernel_rfl) (pend_by (by kernel_rfl) pend_nil)))))))))))) (fun _ _=>?_)
 refine el H fun t1007 h1008 H=>Dv.call rfl (gg rfl) cal6 rfl (r10_Same.c h1008)<|bng rfl rfl rfl rfl (run_beq Tryz.underlying4)<|pt0 rfl rfl rfl<|mv0 rfl rfl ?_
 cases c1009:(t1005 == t1007)
 ·
  have H:=H.cf c1009
  refine sk rfl rfl<|sk rfl rfl<|sk rfl rfl<|sk rfl rfl<|Dv.skipb rfl ⟨_,_,rfl,rfl,.inl rfl⟩ (fun _=>(pend_in (fun _=>trivial) (pend_in (fun _=>trivial) (pend_by (by kernel_rfl) (pend_by (by kernel_rfl) (pend_by (by kernel_rfl) (pend_by (by kernel_rfl) (pend_by (by kernel_rfl) (pend_by (by kernel_rfl) (pend_by (by kernel_rfl) (pend_by (by kernel_rfl) (pend_by (by kernel_rfl) (pend_by (by kernel_rfl) (pend_by (by kernel_rfl) (pend_by (by kernel_rfl) (pend_by (by kernel_rfl) (pend_by (by kernel_rfl) (pend_by (by kernel_rfl) (pend_by (by kernel_rfl) (pend_by (by kernel_rfl) pend_nil))))))))))))))))))))<|sk rfl rfl<|sk rfl rfl<|pf0 rfl rfl rfl<|mv0 rfl rfl<|sk rfl rfl<|sk rfl rfl<|Dv.skipb rfl ⟨_,_,rfl,rfl,.inl rfl⟩ (fun _=>pend_bits (by kernel_rfl))<|pf0 rfl rfl rfl<|mv0 rfl rfl<|sk rfl rfl<|pf0 rfl rfl rfl<|as0 rfl rfl<|.fin ?_
  cases H.out; exact rt i2 rfl () 6 [0,1,2,3,4,5] 6 (.cons (res_tmp rfl) .nil)
 have H:=H.ct c1009
 refine mvg rfl rfl rfl<|mvg rfl rfl rfl<|lds 5 rfl (gg rfl) rfl sg26 rfl rfl<|lds 3 rfl (gg rfl) rfl sg26 rfl rfl<|el H fun t1010 h1011 H=>Dv.callx (pre:=[VView.O g983 (t981.1.getD default),VView.O g993 (t991.1.getD default)]) (F:=[VView.O g987 (t985.1.getD default),blk b994 26 (RView.enc t991.2),blk b988 26 (RView.enc t985.2),blk b984 26 (RView.enc t981.2)]++F) (fun _:Unit=>[VView.O g983 (t981.1.getD default),VView.O g993 (t991.1.getD default),VView.O g987 (t985.1.getD default),blk b994 26 (RView.enc t991.2),blk b988 26 (RView.enc t985.2),blk b984 26 (RView.enc t981.2)]++F) rfl (gg rfl) cal5 rfl (view_View_Same.c h1011 (p0_:=g983) (p1_:=g993)) (perm_to (L:=[VView.O g987 (t985.1.getD default),VView.O g983 (t981.1.getD default),VView.O g993 (t991.1.getD default),blk b994 26 (RView.enc t991.2),blk b988 26 (RView.enc t985.2),blk b984 26 (RView.enc t981.2)]) (F:=F) [1,2,0,3,4,5] (by kernel_rfl) rfl rfl) rfl (fun _=>pendc (pend_in (fun _=>(mem_at 3 rfl)) (pend_in (fun _=>(mem_at 5 rfl)) (pend_by (by kernel_rfl) (pend_by (by kernel_rfl) (pend_by (by kernel_rfl) (pend_by (by kernel_rfl) (pend_by (by kernel_rfl) (pend_by (by kernel_rfl) (pend_by (by kernel_rfl) (pend_by (by kernel_rfl) (pend_by (by kernel_rfl) (pend_by (by kernel_rfl) (pend_by (by kernel_rfl) (pend_by (by kernel_rfl) (pend_by (by kernel_rfl) (pend_by (by kernel_rfl) (pend_by (by kernel_rfl) (pend_by (by kernel_rfl) (pend_by (by kernel_rfl) pend_nil)))))))))))))))))))) (fun _ _=>?_)
 refine el H fun t1012 h1013 H=>Dv.call rfl (gg rfl) cal6 rfl (r10_Same.c h1013)<|bng rfl rfl rfl rfl (run_beq Tryz.underlying4)<|pt0 rfl rfl rfl<|mv0 rfl rfl ?_
 cases c1014:(t1010 == t1012)
 ·
  have H:=H.cf c1014
  refine sk rfl rfl<|sk rfl rfl<|Dv.skipb rfl ⟨_,_,rfl,rfl,.inl rfl⟩ (fun _=>pend_bits (by kernel_rfl))<|pf0 rfl rfl rfl<|mv0 rfl rfl<|sk rfl rfl<|pf0 rfl rfl rfl<|as0 rfl rfl<|.fin ?_
  cases H.out; exact rt i2 rfl () 6 [0,1,2,3,4,5] 6 (.cons (res_tmp rfl) .nil)
 have H:=H.ct c1014
 refine mvg rfl rfl rfl<|mvg rfl rfl rfl<|el H fun t1015 h1016 H=>cx 6 [0,1,2,3,4,5] cal5 (view_View_Same_self.c h1016 (p0_:=g983)) pC fun _ _=>?_
 refine pt0 rfl rfl rfl<|mv0 rfl rfl ?_
 cases c1017:t1015
 ·
  have H:=H.cf c1017
  refine sk rfl rfl<|pf0 rfl rfl rfl<|as0 rfl rfl<|.fin ?_
  cases H.out; exact rt i2 rfl () 6 [0,1,2,3,4,5] 6 (.cons (res_tmp rfl) .nil)
 have H:=H.ct c1017
 refine el H fun t1018 h1019 H=>Dv.call rfl (gg rfl) cal7 rfl (w10_lives.c h1019)<|pt0 rfl rfl rfl<|as0 rfl rfl<|.fin ?_
 cases H.out; exact rt i2 rfl () 6 [0,1,2,3,4,5] 6 (.cons (res_tmp rfl) .nil)
end Go.Proofs.YtcchplmcefamhaaGreat
