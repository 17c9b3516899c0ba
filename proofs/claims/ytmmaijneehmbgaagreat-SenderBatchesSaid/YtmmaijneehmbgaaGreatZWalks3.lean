import Derived.Test.YtmmaijneehmbgaaGreatZWalks2
import Derived.Test.YtmmaijneehmbgaaGreatConQ
import Derived.Test.YtmmaijneehmbgaaGreatConA6
import Derived.Test.YtmmaijneehmbgaaGreatConC1
import Derived.Eval
set_option linter.all false
set_option maxRecDepth 10000
set_option maxHeartbeats 20000000
namespace Go.Proofs.YtmmaijneehmbgaaGreat
open Go Go.Sp
theorem r04_SameEdus.c {k:Nat} {a0:List Edu} {a1:List Edu} {r:Bool} (h:r04_SameEdus.f k a0 a1 = some r):Pt Tryz.prog 16 [sl Edu.K a0,sl Edu.K a1] (vB r):=by
 unfold r04_SameEdus.f at h
 refine pb Tryz.func16 Tryz.ntmps16 h fun R0 F H=>?_
 refine WP.seq<|rg 1 0<|as0 rfl rfl<|.fin<|WP.seq<|WP.seq<|rg 5 0<|mv0 rfl rfl<|Dv.lenl rfl trivial rfl Tryz.underlying23<|mv0 rfl rfl<|Dv.lenl rfl trivial rfl Tryz.underlying23<|bn0 rfl rfl rfl run_ne<|.fin<|cd H rfl (fun _ H=>?_) (fun _ H=>?_)
 ·
  refine WP.seq<|rg 1 0<|as0 rfl rfl<|.fin ?_
  cases H.out; exact r0 i2 rfl (.cons (res_tmp rfl) .nil)
 refine WP.skip<|WP.seqr H id (fun p1830:Int×Bool=>[(0,sl Edu.K a0),(1,sl Edu.K a1),(4,vB false),(5,vI p1830.1),(10,vB ((a0.length:Int) != (a1.length:Int))),(14,vB p1830.2)]) (fun p1830:Int×Bool=>F) (fun p1830 H=>?_) (fun H=>?_)
 ·
  refine WP.seq<|rg 1 0<|as0 rfl rfl<|.fin ?_
  cases H.out; exact r0 i2 rfl (.cons (res_tmp rfl) .nil)
 refine WP.seq<|rg 1 0<|as0 rfl rfl<|.fin<|WP.block<|wg (sg 0 [] 0) fun _ _=>?_
 refine lp (fun j_ (p1837:Int)=>r04_SameEdus.l0 k a0 a1 j_ p1837) 0 H (fun p1837=>[(0,sl Edu.K a0),(1,sl Edu.K a1),(4,vB false),(5,vI p1837),(10,vB ((a0.length:Int) != (a1.length:Int)))]) (fun p1837=>F) ?_
 rintro j_ x1831 H
 rcases j_ with _ | j1836
 ·
  exact (Gets.no H).elim
 replace H:Gets (r04_SameEdus.l0 k a0 a1 (j1836 + 1) x1831) _:=H
 rw [r04_SameEdus.l0] at H
 refine WP.seq<|WP.seq<|rg 4 0<|mv0 rfl rfl<|mv0 rfl rfl<|Dv.lenl rfl trivial rfl Tryz.underlying23<|bn0 rfl rfl rfl run_lt<|.fin<|cd H rfl (fun _ H=>?_) (fun _ H=>?_)
 rotate_left
 ·
  refine WP.exit ?_
  have H:=H.out
  exact jn (x1831,decide (x1831 < (a0.length:Int))) H
 refine WP.skip<|WP.seq<|WP.block<|WP.seq<|dg Tryz.checked.mixed 9 0<|mv0 rfl rfl<|mv0 rfl rfl<|gr H fun g1833 H=>Dv.ixr rfl trivial rfl rfl Tryz.underlying23 Tryz.underlying32 c32 g1833.1 g1833.2<|ldsR rfl trivial rfl sg32 rfl<|mv0 rfl rfl<|mv0 rfl rfl<|gr H fun g1834 H=>Dv.ixr rfl trivial rfl rfl Tryz.underlying23 Tryz.underlying32 c32 g1834.1 g1834.2<|ldsR rfl trivial rfl sg32 rfl<|Dv.nes [.int .i64 ((Edu.K.at a0 x1831).fKind),.string ((Edu.K.at a0 x1831).fRoom),.string ((Edu.K.at a0 x1831).fUser),.string ((Edu.K.at a0 x1831).fEvent),.string ((Edu.K.at a0 x1831).fThread),.bool ((Edu.K.at a0 x1831).fPrivate),.bool ((Edu.K.at a0 x1831).fOn),.int .i64 ((Edu.K.at a0 x1831).fSpan),.int .i64 ((Edu.K.at a0 x1831).fState),.int .i64 ((Edu.K.at a0 x1831).fTick),.int .i64 ((Edu.K.at a0 x1831).fStamp)] [.int .i64 ((Edu.K.at a1 x1831).fKind),.string ((Edu.K.at a1 x1831).fRoom),.string ((Edu.K.at a1 x1831).fUser),.string ((Edu.K.at a1 x1831).fEvent),.string ((Edu.K.at a1 x1831).fThread),.bool ((Edu.K.at a1 x1831).fPrivate),.bool ((Edu.K.at a1 x1831).fOn),.int .i64 ((Edu.K.at a1 x1831).fSpan),.int .i64 ((Edu.K.at a1 x1831).fState),.int .i64 ((Edu.K.at a1 x1831).fTick),.int .i64 ((Edu.K.at a1 x1831).fStamp)] rfl trivial rfl rfl rfl rfl eg32 (fun _=>equal_of 2 (by decide) (fun _=>eqt32 (Edu.K.at a0 x1831) (Edu.K.at a1 x1831)))<|.fin<|cd H rfl (fun _ H=>?_) (fun _ H=>?_)
 rotate_left
 ·
  exact WP.skip<|rg 3 0<|mv0 rfl rfl<|bn0 rfl rfl rfl run_add<|as0 rfl rfl<|.fin<|bk j1836 (w64 (x1831 + 1)) H
 refine WP.seq<|rg 1 0<|as0 rfl rfl<|.fin ?_
 have H:=H.outr
 cases H.out; exact r0 i2 rfl (.cons (res_tmp rfl) .nil)
end Go.Proofs.YtmmaijneehmbgaaGreat
