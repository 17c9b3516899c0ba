import Derived.Test.YtcchplmcefamhaaGreatZMir
import Derived.Test.YtcchplmcefamhaaGreatConQ
import Derived.Test.YtcchplmcefamhaaGreatConA6
import Derived.Test.YtcchplmcefamhaaGreatConC2
import Derived.Eval
import Derived.Test.YtcchplmcefamhaaGreatZShelf
set_option linter.all false
set_option maxRecDepth 10000
set_option maxHeartbeats 20000000
namespace Go.Proofs.YtcchplmcefamhaaGreat
open Go Go.Sp
theorem r01_Around.c {a0:Int} {a1:Int} {r:Int} (h:r01_Around.f a0 a1 = some r):Pt Tryz.prog 36 [vI a0,vI a1] (vI r):=by
 unfold r01_Around.f at h
 refine pb Tryz.func36 Tryz.ntmps36 h fun R0 F H=>?_
 refine WP.seq<|rg 1 0<|as0 rfl rfl<|.fin<|WP.seq<|WP.seq<|rg 2 0<|mv0 rfl rfl<|bn0 rfl rfl rfl run_lt<|.fin<|cd H rfl (fun _ H=>?_) (fun _ H=>?_)
 rotate_left
 ·
  refine WP.skip<|WP.seq<|rg 4 0<|mv0 rfl rfl<|mv0 rfl rfl<|gr H fun g3 H=>bn0 rfl rfl rfl (run_rem g3)<|as0 rfl rfl<|.fin ?_
  cases H.out; exact r0 i2 rfl (.cons (res_tmp rfl) .nil)
 refine rg 4 0<|mv0 rfl rfl<|bn0 rfl rfl rfl run_add<|un0 rfl rfl (run_neg _ _)<|as0 rfl rfl<|.fin<|WP.seq<|rg 4 0<|mv0 rfl rfl<|mv0 rfl rfl<|gr H fun g2 H=>bn0 rfl rfl rfl (run_rem g2)<|as0 rfl rfl<|.fin ?_
 cases H.out; exact r0 i2 rfl (.cons (res_tmp rfl) .nil)
theorem r01_Decimal.c:∀ (k:Nat) {a0:Int} {r:ByteArray} (h:r01_Decimal.f k a0 = some r),Pt Tryz.prog 50 [vI a0] (vS r)
  | 0,_,_,h=>by cases h
  | k + 1,a0,r,h=>by
    rw [r01_Decimal.f] at h
    refine pb Tryz.func50 Tryz.ntmps50 h fun R0 F H=>?_
    refine WP.seq<|rg 1 0<|as0 rfl rfl<|.fin<|WP.seq<|rg 3 0<|mv0 rfl rfl<|bn0 rfl rfl rfl (run_rem (by decide))<|as0 rfl rfl<|.fin<|WP.seqn H id (fun p4:Int=>[(0,vI a0),(2,vS (⟨#[]⟩:ByteArray)),(3,vI p4),(8,vB (decide ((a0.tmod 10) < 0)))]) (fun p4:Int=>F) (fun p4 H=>?_) (fun H=>?_)
    rotate_left
    ·
     refine WP.seq<|rg 2 0<|mv0 rfl rfl<|bn0 rfl rfl rfl run_lt<|.fin<|cd H rfl (fun _ H=>?_) (fun _ H=>?_)
     rotate_left
     ·
      refine WP.skip ?_
      have H:=H.out
      exact jn (a0.tmod 10) H
     refine rg 3 0<|mv0 rfl rfl<|un0 rfl rfl (run_neg _ _)<|as0 rfl rfl<|.fin ?_
     have H:=H.out
     exact jn (w64 (0 - (a0.tmod 10))) H
    refine WP.seq<|rg 6 0<|mv0 rfl rfl<|bn0 rfl rfl rfl run_add<|Dv.cvi rfl trivial rfl Tryz.underlying3 Tryz.underlying5<|Dv.lit (intK .u8) ([IntKind.u8.wrap (w64 (48 + p4))]:List Int) (css:=[[eq (.int .u8 (IntKind.u8.wrap (w64 (48 + p4))))]]) rfl trivial Tryz.underlying111 Tryz.underlying5 c5 z5 rfl (by decide) (by decide) rfl ⟨(cells_one (one_eq rfl)),trivial⟩ rfl rfl rfl<|Dv.cvbs rfl trivial rfl Tryz.underlying111 Tryz.underlying5 Tryz.underlying9<|as0 rfl rfl<|.fin<|WP.seq<|WP.seq<|rg 6 0<|mv0 rfl rfl<|bn0 rfl rfl rfl run_gt<|mv0 rfl rfl ?_
    cases c5:decide ((-10) < a0)
    ·
     have H:=H.cf c5
     refine sk rfl rfl<|sk rfl rfl<|pf0 rfl rfl rfl<|.fin<|WP.cond rfl nofun (fun _=>?_)
     refine WP.skip<|WP.seq<|rg 6 0<|mv0 rfl rfl<|bn0 rfl rfl rfl (run_quo (by decide))<|el H fun t13 h14 H=>cl rfl cal50 rfl (r01_Decimal.c k h14)<|mv0 rfl rfl<|gr H fun g15 H=>bn0 rfl rfl rfl (run_cat g15)<|as0 rfl rfl<|.fin ?_
     cases H.out; exact r0 i2 rfl (.cons (res_tmp rfl) .nil)
    have H:=H.ct c5
    refine mvg rfl rfl rfl<|bng rfl rfl rfl rfl run_lt<|pt0 rfl rfl rfl<|.fin<|cd H rfl (fun _ H=>?_) (fun _ H=>?_)
    rotate_left
    ·
     refine WP.skip<|WP.seq<|rg 6 0<|mv0 rfl rfl<|bn0 rfl rfl rfl (run_quo (by decide))<|el H fun t9 h10 H=>cl rfl cal50 rfl (r01_Decimal.c k h10)<|mv0 rfl rfl<|gr H fun g11 H=>bn0 rfl rfl rfl (run_cat g11)<|as0 rfl rfl<|.fin ?_
     cases H.out; exact r0 i2 rfl (.cons (res_tmp rfl) .nil)
    refine WP.seq<|WP.seq<|rg 2 0<|mv0 rfl rfl<|bn0 rfl rfl rfl run_lt<|.fin<|cd H rfl (fun _ H=>?_) (fun _ H=>?_)
    rotate_left
    ·
     refine WP.skip<|WP.seq<|rg 2 0<|mv0 rfl rfl<|as0 rfl rfl<|.fin ?_
     cases H.out; exact r0 i2 rfl (.cons (res_tmp rfl) .nil)
    refine WP.seq<|rg 3 0<|mv0 rfl rfl<|gr H fun g8 H=>bn0 rfl rfl rfl (run_cat g8)<|as0 rfl rfl<|.fin ?_
    cases H.out; exact r0 i2 rfl (.cons (res_tmp rfl) .nil)
theorem r01_EventOf.c {k:Nat} {a0:Int} {r:ByteArray} (h:r01_EventOf.f k a0 = some r):Pt Tryz.prog 34 [vI a0] (vS r):=by
 unfold r01_EventOf.f at h
 refine pb Tryz.func34 Tryz.ntmps34 h fun R0 F H=>?_
 refine WP.seq<|rg 1 0<|as0 rfl rfl<|.fin<|WP.seq<|rg 5 0<|mv0 rfl rfl<|el H fun t17 h18 H=>cl rfl cal36 rfl (r01_Around.c h18)<|el H fun t19 h20 H=>cl rfl cal50 rfl (r01_Decimal.c _ h20)<|gr H fun g21 H=>bn0 rfl rfl rfl (run_cat g21)<|as0 rfl rfl<|.fin ?_
 cases H.out; exact r0 i2 rfl (.cons (res_tmp rfl) .nil)
theorem r01_ServerOf.c {a0:Int} {r:ByteArray} (h:r01_ServerOf.f a0 = some r):Pt Tryz.prog 51 [vI a0] (vS r):=by
 unfold r01_ServerOf.f at h
 refine pb Tryz.func51 Tryz.ntmps51 h fun R0 F H=>?_
 refine WP.seq<|rg 1 0<|as0 rfl rfl<|.fin<|WP.seq<|rg 6 0<|Dv.lit strK ([(⟨#[115,49]⟩:ByteArray),(⟨#[115,50]⟩:ByteArray),(⟨#[115,51]⟩:ByteArray)]:List ByteArray) (css:=[[vS (⟨#[115,49]⟩:ByteArray)],[vS (⟨#[115,50]⟩:ByteArray)],[vS (⟨#[115,51]⟩:ByteArray)]]) rfl trivial Tryz.underlying38 Tryz.underlying9 c9 z9 rfl (by decide) (by decide) rfl ⟨(cells_one (one_eq rfl)),⟨(cells_one (one_eq rfl)),⟨(cells_one (one_eq rfl)),trivial⟩⟩⟩ rfl rfl rfl<|mv0 rfl rfl<|el H fun t22 h23 H=>cl rfl cal36 rfl (r01_Around.c h23)<|gr H fun g24 H=>Dv.ixr rfl trivial rfl rfl Tryz.underlying38 Tryz.underlying9 c9 g24.1 g24.2<|ldR rfl trivial rfl sc9 rfl<|as0 rfl rfl<|.fin ?_
 cases H.out; exact r0 i2 rfl (.cons (res_tmp rfl) .nil)
theorem r01_UserOf.c {a0:Int} {r:ByteArray} (h:r01_UserOf.f a0 = some r):Pt Tryz.prog 35 [vI a0] (vS r):=by
 unfold r01_UserOf.f at h
 refine pb Tryz.func35 Tryz.ntmps35 h fun R0 F H=>?_
 refine WP.seq<|rg 1 0<|as0 rfl rfl<|.fin<|WP.seq<|rg 3 0<|mv0 rfl rfl<|el H fun t25 h26 H=>cl rfl cal36 rfl (r01_Around.c h26)<|as0 rfl rfl<|.fin<|WP.seq<|dg Tryz.checked.mixed 10 0<|Dv.lit strK ([(⟨#[64,97,58]⟩:ByteArray),(⟨#[64,98,58]⟩:ByteArray),(⟨#[64,99,58]⟩:ByteArray)]:List ByteArray) (css:=[[vS (⟨#[64,97,58]⟩:ByteArray)],[vS (⟨#[64,98,58]⟩:ByteArray)],[vS (⟨#[64,99,58]⟩:ByteArray)]]) rfl trivial Tryz.underlying38 Tryz.underlying9 c9 z9 rfl (by decide) (by decide) rfl ⟨(cells_one (one_eq rfl)),⟨(cells_one (one_eq rfl)),⟨(cells_one (one_eq rfl)),trivial⟩⟩⟩ rfl rfl rfl<|mv0 rfl rfl<|bn0 rfl rfl rfl (run_quo (by decide))<|gr H fun g27 H=>Dv.ixr rfl trivial rfl rfl Tryz.underlying38 Tryz.underlying9 c9 g27.1 g27.2<|ldR rfl trivial rfl sc9 rfl<|mv0 rfl rfl<|bn0 rfl rfl rfl (run_rem (by decide))<|el H fun t28 h29 H=>cl rfl cal51 rfl (r01_ServerOf.c h29)<|gr H fun g30 H=>bn0 rfl rfl rfl (run_cat g30)<|as0 rfl rfl<|.fin ?_
 cases H.out; exact r0 i2 rfl (.cons (res_tmp rfl) .nil)
theorem r01_low.c {a0:Int} {r:Bool} (h:r01_low.f a0 = some r):Pt Tryz.prog 86 [eq (.int .u8 a0)] (vB r):=by
 unfold r01_low.f at h
 refine pb Tryz.func86 Tryz.ntmps86 h fun R0 F H=>?_
 refine WP.seq<|rg 1 0<|as0 rfl rfl<|.fin<|WP.seq<|rg 15 0<|mv0 rfl rfl<|bn0 rfl rfl rfl run_ge<|mv0 rfl rfl ?_
 cases c31:decide (97≤a0)
 ·
  have H:=H.cf c31
  refine sk rfl rfl<|sk rfl rfl<|pf0 rfl rfl rfl<|mv0 rfl rfl<|mvg rfl rfl rfl<|bng rfl rfl rfl rfl run_ge<|mvg rfl rfl rfl ?_
  cases c34:decide (48≤a0)
  ·
   have H:=H.cf c34
   refine sk rfl rfl<|sk rfl rfl<|pfg rfl rfl rfl rfl<|pf0 rfl rfl rfl<|as0 rfl rfl<|.fin ?_
   cases H.out; exact r0 i2 rfl (.cons (res_tmp rfl) .nil)
  have H:=H.ct c34
  refine mvg rfl rfl rfl<|bng rfl rfl rfl rfl run_le<|ptg rfl rfl rfl rfl<|pf0 rfl rfl rfl<|as0 rfl rfl<|.fin ?_
  cases H.out; exact r0 i2 rfl (.cons (res_tmp rfl) .nil)
 have H:=H.ct c31
 refine mvg rfl rfl rfl<|bng rfl rfl rfl rfl run_le<|pt0 rfl rfl rfl<|mv0 rfl rfl ?_
 cases c32:decide (a0≤122)
 rotate_left
 ·
  have H:=H.ct c32
  refine sk rfl rfl<|sk rfl rfl<|sk rfl rfl<|sku rfl rfl<|sku rfl rfl<|sk rfl rfl<|pt0 rfl rfl rfl<|as0 rfl rfl<|.fin ?_
  cases H.out; exact r0 i2 rfl (.cons (res_tmp rfl) .nil)
 have H:=H.cf c32
 refine mvg rfl rfl rfl<|bng rfl rfl rfl rfl run_ge<|mvg rfl rfl rfl ?_
 cases c33:decide (48≤a0)
 ·
  have H:=H.cf c33
  refine sk rfl rfl<|sk rfl rfl<|pfg rfl rfl rfl rfl<|pf0 rfl rfl rfl<|as0 rfl rfl<|.fin ?_
  cases H.out; exact r0 i2 rfl (.cons (res_tmp rfl) .nil)
 have H:=H.ct c33
 refine mvg rfl rfl rfl<|bng rfl rfl rfl rfl run_le<|ptg rfl rfl rfl rfl<|pf0 rfl rfl rfl<|as0 rfl rfl<|.fin ?_
 cases H.out; exact r0 i2 rfl (.cons (res_tmp rfl) .nil)
theorem r01_Event.c {k:Nat} {a0:ByteArray} {r:Bool} (h:r01_Event.f k a0 = some r):Pt Tryz.prog 71 [vS a0] (vB r):=by
 unfold r01_Event.f at h
 refine pb Tryz.func71 Tryz.ntmps71 h fun R0 F H=>?_
 refine WP.seq<|rg 1 0<|as0 rfl rfl<|.fin<|WP.seq<|WP.seq<|rg 13 0<|mv0 rfl rfl<|Dv.lens rfl trivial rfl Tryz.underlying9<|bn0 rfl rfl rfl run_lt<|mv0 rfl rfl ?_
 cases c35:decide ((a0.size:Int) < 2)
 rotate_left
 ·
  have H:=H.ct c35
  refine sk rfl rfl<|sk rfl rfl<|sk rfl rfl<|pt0 rfl rfl rfl<|mv0 rfl rfl<|sk rfl rfl<|sk rfl rfl<|sk rfl rfl<|pt0 rfl rfl rfl<|.fin<|WP.cond rfl (fun _=>?_) nofun
  refine WP.seq<|rg 1 0<|as0 rfl rfl<|.fin ?_
  cases H.out; exact r0 i2 rfl (.cons (res_tmp rfl) .nil)
 have H:=H.cf c35
 refine mvg rfl rfl rfl<|Dv.lens rfl (gg rfl) rfl Tryz.underlying9<|bng rfl rfl rfl rfl run_gt<|pf0 rfl rfl rfl<|mv0 rfl rfl ?_
 cases c37:decide (17 < (a0.size:Int))
 rotate_left
 ·
  have H:=H.ct c37
  refine sk rfl rfl<|sk rfl rfl<|sk rfl rfl<|pt0 rfl rfl rfl<|.fin<|WP.cond rfl (fun _=>?_) nofun
  refine WP.seq<|rg 1 0<|as0 rfl rfl<|.fin ?_
  cases H.out; exact r0 i2 rfl (.cons (res_tmp rfl) .nil)
 have H:=H.cf c37
 refine mvg rfl rfl rfl<|gr H fun g39 H=>Dv.ixs rfl (gg rfl) rfl rfl Tryz.underlying9 g39.1 g39.2<|bng rfl rfl rfl rfl run_ne<|pf0 rfl rfl rfl<|.fin<|cd H rfl (fun _ H=>?_) (fun _ H=>?_)
 ·
  refine WP.seq<|rg 1 0<|as0 rfl rfl<|.fin ?_
  cases H.out; exact r0 i2 rfl (.cons (res_tmp rfl) .nil)
 refine WP.skip<|WP.seqr H id (fun p41:Int×Bool=>[(0,vS a0),(2,vB false),(3,vI p41.1),(18,vB ((bt a0 0) != 36)),(22,vB p41.2)]) (fun p41:Int×Bool=>F) (fun p41 H=>?_) (fun H=>?_)
 ·
  refine WP.seq<|rg 1 0<|as0 rfl rfl<|.fin ?_
  cases H.out; exact r0 i2 rfl (.cons (res_tmp rfl) .nil)
 refine WP.seq<|rg 1 0<|as0 rfl rfl<|.fin<|WP.block<|wg (sg 0 [] 0) fun _ _=>?_
 refine lp (fun j_ (p67:Int)=>r01_Event.l0 k a0 j_ p67) 1 H (fun p67=>[(0,vS a0),(2,vB false),(3,vI p67),(18,vB ((bt a0 0) != 36))]) (fun p67=>F) ?_
 rintro j_ x42 H
 rcases j_ with _ | j66
 ·
  exact (Gets.no H).elim
 replace H:Gets (r01_Event.l0 k a0 (j66 + 1) x42) _:=H
 rw [r01_Event.l0] at H
 refine WP.seq<|WP.seq<|rg 4 0<|mv0 rfl rfl<|mv0 rfl rfl<|Dv.lens rfl trivial rfl Tryz.underlying9<|bn0 rfl rfl rfl run_lt<|.fin<|cd H rfl (fun _ H=>?_) (fun _ H=>?_)
 rotate_left
 ·
  refine WP.exit ?_
  have H:=H.out
  exact jn (x42,decide (x42 < (a0.size:Int))) H
 refine WP.skip<|WP.seq<|WP.block<|WP.seq<|rg 5 0<|mv0 rfl rfl<|mv0 rfl rfl<|gr H fun g44 H=>Dv.ixs rfl trivial rfl rfl Tryz.underlying9 g44.1 g44.2<|el H fun t45 h46 H=>cl rfl cal86 rfl (r01_low.c h46)<|as0 rfl rfl<|.fin<|WP.seq<|rg 11 0<|mv0 rfl rfl<|mv0 rfl rfl<|gr H fun g47 H=>Dv.ixs rfl trivial rfl rfl Tryz.underlying9 g47.1 g47.2<|bn0 rfl rfl rfl run_ge<|mv0 rfl rfl ?_
 cases c48:decide (65≤(bt a0 x42))
 ·
  have H:=H.cf c48
  refine sk rfl rfl<|sk rfl rfl<|sk rfl rfl<|sk rfl rfl<|pf0 rfl rfl rfl<|as0 rfl rfl<|.fin<|WP.seq<|rg 18 0<|mv0 rfl rfl<|un0 rfl rfl (run_not _)<|mv0 rfl rfl ?_
  cases c59:!t45
  ·
   have H:=H.cf c59
   refine sk rfl rfl<|sk rfl rfl<|pf0 rfl rfl rfl<|mv0 rfl rfl<|sk rfl rfl<|sk rfl rfl<|sk rfl rfl<|sk rfl rfl<|pf0 rfl rfl rfl<|mv0 rfl rfl<|sk rfl rfl<|sk rfl rfl<|sk rfl rfl<|sk rfl rfl<|pf0 rfl rfl rfl<|.fin<|WP.cond rfl nofun (fun _=>?_)
   exact WP.skip<|rg 3 0<|mv0 rfl rfl<|bn0 rfl rfl rfl run_add<|as0 rfl rfl<|.fin<|bk j66 (w64 (x42 + 1)) H
  have H:=H.ct c59
  refine mvg rfl rfl rfl<|ung rfl rfl rfl (run_not _)<|pt0 rfl rfl rfl<|mv0 rfl rfl<|mvg rfl rfl rfl<|mvg rfl rfl rfl<|gr H fun g60 H=>Dv.ixs rfl (gg rfl) rfl rfl Tryz.underlying9 g60.1 g60.2<|bng rfl rfl rfl rfl run_ne<|pt0 rfl rfl rfl<|mv0 rfl rfl ?_
  cases c61:((bt a0 x42) != 45)
  ·
   have H:=H.cf c61
   refine sk rfl rfl<|sk rfl rfl<|sk rfl rfl<|sk rfl rfl<|pf0 rfl rfl rfl<|.fin<|WP.cond rfl nofun (fun _=>?_)
   exact WP.skip<|rg 3 0<|mv0 rfl rfl<|bn0 rfl rfl rfl run_add<|as0 rfl rfl<|.fin<|bk j66 (w64 (x42 + 1)) H
  have H:=H.ct c61
  refine mvg rfl rfl rfl<|mvg rfl rfl rfl<|gr H fun g62 H=>Dv.ixs rfl (gg rfl) rfl rfl Tryz.underlying9 g62.1 g62.2<|bng rfl rfl rfl rfl run_ne<|pt0 rfl rfl rfl<|.fin<|cd H rfl (fun _ H=>?_) (fun _ H=>?_)
  rotate_left
  ·
   exact WP.skip<|rg 3 0<|mv0 rfl rfl<|bn0 rfl rfl rfl run_add<|as0 rfl rfl<|.fin<|bk j66 (w64 (x42 + 1)) H
  refine WP.seq<|rg 1 0<|as0 rfl rfl<|.fin ?_
  have H:=H.outr
  cases H.out; exact r0 i2 rfl (.cons (res_tmp rfl) .nil)
 have H:=H.ct c48
 refine mvg rfl rfl rfl<|mvg rfl rfl rfl<|gr H fun g49 H=>Dv.ixs rfl (gg rfl) rfl rfl Tryz.underlying9 g49.1 g49.2<|bng rfl rfl rfl rfl run_le<|pt0 rfl rfl rfl<|as0 rfl rfl<|.fin<|WP.seq<|rg 18 0<|mv0 rfl rfl<|un0 rfl rfl (run_not _)<|mv0 rfl rfl ?_
 cases c50:!t45
 ·
  have H:=H.cf c50
  refine sk rfl rfl<|sk rfl rfl<|pf0 rfl rfl rfl<|mv0 rfl rfl<|sk rfl rfl<|sk rfl rfl<|sk rfl rfl<|sk rfl rfl<|pf0 rfl rfl rfl<|mv0 rfl rfl<|sk rfl rfl<|sk rfl rfl<|sk rfl rfl<|sk rfl rfl<|pf0 rfl rfl rfl<|.fin<|WP.cond rfl nofun (fun _=>?_)
  exact WP.skip<|rg 3 0<|mv0 rfl rfl<|bn0 rfl rfl rfl run_add<|as0 rfl rfl<|.fin<|bk j66 (w64 (x42 + 1)) H
 have H:=H.ct c50
 refine mvg rfl rfl rfl<|ung rfl rfl rfl (run_not _)<|pt0 rfl rfl rfl<|mv0 rfl rfl ?_
 cases c51:!(decide ((bt a0 x42)≤90))
 ·
  have H:=H.cf c51
  refine sk rfl rfl<|sk rfl rfl<|sk rfl rfl<|sk rfl rfl<|pf0 rfl rfl rfl<|mv0 rfl rfl<|sk rfl rfl<|sk rfl rfl<|sk rfl rfl<|sk rfl rfl<|pf0 rfl rfl rfl<|.fin<|WP.cond rfl nofun (fun _=>?_)
  exact WP.skip<|rg 3 0<|mv0 rfl rfl<|bn0 rfl rfl rfl run_add<|as0 rfl rfl<|.fin<|bk j66 (w64 (x42 + 1)) H
 have H:=H.ct c51
 refine mvg rfl rfl rfl<|mvg rfl rfl rfl<|gr H fun g52 H=>Dv.ixs rfl (gg rfl) rfl rfl Tryz.underlying9 g52.1 g52.2<|bng rfl rfl rfl rfl run_ne<|pt0 rfl rfl rfl<|mv0 rfl rfl ?_
 cases c53:((bt a0 x42) != 45)
 ·
  have H:=H.cf c53
  refine sk rfl rfl<|sk rfl rfl<|sk rfl rfl<|sk rfl rfl<|pf0 rfl rfl rfl<|.fin<|WP.cond rfl nofun (fun _=>?_)
  exact WP.skip<|rg 3 0<|mv0 rfl rfl<|bn0 rfl rfl rfl run_add<|as0 rfl rfl<|.fin<|bk j66 (w64 (x42 + 1)) H
 have H:=H.ct c53
 refine mvg rfl rfl rfl<|mvg rfl rfl rfl<|gr H fun g54 H=>Dv.ixs rfl (gg rfl) rfl rfl Tryz.underlying9 g54.1 g54.2<|bng rfl rfl rfl rfl run_ne<|pt0 rfl rfl rfl<|.fin<|cd H rfl (fun _ H=>?_) (fun _ H=>?_)
 rotate_left
 ·
  exact WP.skip<|rg 3 0<|mv0 rfl rfl<|bn0 rfl rfl rfl run_add<|as0 rfl rfl<|.fin<|bk j66 (w64 (x42 + 1)) H
 refine WP.seq<|rg 1 0<|as0 rfl rfl<|.fin ?_
 have H:=H.outr
 cases H.out; exact r0 i2 rfl (.cons (res_tmp rfl) .nil)
theorem r01_colon.c {k:Nat} {a0:ByteArray} {r:Int} (h:r01_colon.f k a0 = some r):Pt Tryz.prog 87 [vS a0] (vI r):=by
 unfold r01_colon.f at h
 refine pb Tryz.func87 Tryz.ntmps87 h fun R0 F H=>?_
 refine WP.seq<|rg 1 0<|as0 rfl rfl<|.fin<|WP.seqr H id (fun p68:Int×Bool=>[(0,vS a0),(2,vI 0),(3,vI p68.1),(7,vB p68.2)]) (fun p68:Int×Bool=>F) (fun p68 H=>?_) (fun H=>?_)
 ·
  refine WP.seq<|rg 1 0<|as0 rfl rfl<|.fin ?_
  cases H.out; exact r0 i2 rfl (.cons (res_tmp rfl) .nil)
 refine WP.seq<|rg 1 0<|as0 rfl rfl<|.fin<|WP.block<|wg (sg 0 [] 0) fun _ _=>?_
 refine lp (fun j_ (p74:Int)=>r01_colon.l0 k a0 j_ p74) 0 H (fun p74=>[(0,vS a0),(2,vI 0),(3,vI p74)]) (fun p74=>F) ?_
 rintro j_ x69 H
 rcases j_ with _ | j73
 ·
  exact (Gets.no H).elim
 replace H:Gets (r01_colon.l0 k a0 (j73 + 1) x69) _:=H
 rw [r01_colon.l0] at H
 refine WP.seq<|WP.seq<|rg 4 0<|mv0 rfl rfl<|mv0 rfl rfl<|Dv.lens rfl trivial rfl Tryz.underlying9<|bn0 rfl rfl rfl run_lt<|.fin<|cd H rfl (fun _ H=>?_) (fun _ H=>?_)
 rotate_left
 ·
  refine WP.exit ?_
  have H:=H.out
  exact jn (x69,decide (x69 < (a0.size:Int))) H
 refine WP.skip<|WP.seq<|WP.block<|WP.seq<|rg 4 0<|mv0 rfl rfl<|mv0 rfl rfl<|gr H fun g71 H=>Dv.ixs rfl trivial rfl rfl Tryz.underlying9 g71.1 g71.2<|bn0 rfl rfl rfl run_eq<|.fin<|cd H rfl (fun _ H=>?_) (fun _ H=>?_)
 rotate_left
 ·
  exact WP.skip<|rg 3 0<|mv0 rfl rfl<|bn0 rfl rfl rfl run_add<|as0 rfl rfl<|.fin<|bk j73 (w64 (x69 + 1)) H
 refine WP.seq<|rg 2 0<|mv0 rfl rfl<|as0 rfl rfl<|.fin ?_
 have H:=H.outr
 cases H.out; exact r0 i2 rfl (.cons (res_tmp rfl) .nil)
theorem r01_Part.c {k:Nat} {a0:ByteArray} {r:Bool} (h:r01_Part.f k a0 = some r):Pt Tryz.prog 88 [vS a0] (vB r):=by
 unfold r01_Part.f at h
 refine pb Tryz.func88 Tryz.ntmps88 h fun R0 F H=>?_
 refine WP.seq<|rg 1 0<|as0 rfl rfl<|.fin<|WP.seqr H id (fun p75:Int×Bool=>[(0,vS a0),(2,vB false),(3,vI p75.1),(8,vB p75.2)]) (fun p75:Int×Bool=>F) (fun p75 H=>?_) (fun H=>?_)
 ·
  refine WP.seq<|rg 9 0<|mv0 rfl rfl<|Dv.lens rfl trivial rfl Tryz.underlying9<|bn0 rfl rfl rfl run_gt<|mv0 rfl rfl ?_
  cases c76:decide (0 < (a0.size:Int))
  ·
   have H:=H.cf c76
   refine sk rfl rfl<|sk rfl rfl<|sk rfl rfl<|pf0 rfl rfl rfl<|as0 rfl rfl<|.fin ?_
   cases H.out; exact r0 i2 rfl (.cons (res_tmp rfl) .nil)
  have H:=H.ct c76
  refine mvg rfl rfl rfl<|Dv.lens rfl (gg rfl) rfl Tryz.underlying9<|bng rfl rfl rfl rfl run_lt<|pt0 rfl rfl rfl<|as0 rfl rfl<|.fin ?_
  cases H.out; exact r0 i2 rfl (.cons (res_tmp rfl) .nil)
 refine WP.seq<|rg 1 0<|as0 rfl rfl<|.fin<|WP.block<|wg (sg 0 [] 0) fun _ _=>?_
 refine lp (fun j_ (p93:Int)=>r01_Part.l0 k a0 j_ p93) 0 H (fun p93=>[(0,vS a0),(2,vB false),(3,vI p93)]) (fun p93=>F) ?_
 rintro j_ x77 H
 rcases j_ with _ | j92
 ·
  exact (Gets.no H).elim
 replace H:Gets (r01_Part.l0 k a0 (j92 + 1) x77) _:=H
 rw [r01_Part.l0] at H
 refine WP.seq<|WP.seq<|rg 4 0<|mv0 rfl rfl<|mv0 rfl rfl<|Dv.lens rfl trivial rfl Tryz.underlying9<|bn0 rfl rfl rfl run_lt<|.fin<|cd H rfl (fun _ H=>?_) (fun _ H=>?_)
 rotate_left
 ·
  refine WP.exit ?_
  have H:=H.out
  exact jn (x77,decide (x77 < (a0.size:Int))) H
 refine WP.skip<|WP.seq<|WP.block<|WP.seq<|rg 5 0<|mv0 rfl rfl<|mv0 rfl rfl<|gr H fun g79 H=>Dv.ixs rfl trivial rfl rfl Tryz.underlying9 g79.1 g79.2<|el H fun t80 h81 H=>cl rfl cal86 rfl (r01_low.c h81)<|as0 rfl rfl<|.fin<|WP.seq<|rg 20 0<|mv0 rfl rfl<|un0 rfl rfl (run_not _)<|mv0 rfl rfl ?_
 cases c82:!t80
 ·
  have H:=H.cf c82
  refine sk rfl rfl<|sk rfl rfl<|sk rfl rfl<|sk rfl rfl<|pf0 rfl rfl rfl<|mv0 rfl rfl<|sk rfl rfl<|sk rfl rfl<|sk rfl rfl<|sk rfl rfl<|pf0 rfl rfl rfl<|mv0 rfl rfl<|sk rfl rfl<|sk rfl rfl<|sk rfl rfl<|sk rfl rfl<|pf0 rfl rfl rfl<|.fin<|WP.cond rfl nofun (fun _=>?_)
  exact WP.skip<|rg 3 0<|mv0 rfl rfl<|bn0 rfl rfl rfl run_add<|as0 rfl rfl<|.fin<|bk j92 (w64 (x77 + 1)) H
 have H:=H.ct c82
 refine mvg rfl rfl rfl<|mvg rfl rfl rfl<|gr H fun g83 H=>Dv.ixs rfl (gg rfl) rfl rfl Tryz.underlying9 g83.1 g83.2<|bng rfl rfl rfl rfl run_ne<|pt0 rfl rfl rfl<|mv0 rfl rfl ?_
 cases c84:((bt a0 x77) != 46)
 ·
  have H:=H.cf c84
  refine sk rfl rfl<|sk rfl rfl<|sk rfl rfl<|sk rfl rfl<|pf0 rfl rfl rfl<|mv0 rfl rfl<|sk rfl rfl<|sk rfl rfl<|sk rfl rfl<|sk rfl rfl<|pf0 rfl rfl rfl<|.fin<|WP.cond rfl nofun (fun _=>?_)
  exact WP.skip<|rg 3 0<|mv0 rfl rfl<|bn0 rfl rfl rfl run_add<|as0 rfl rfl<|.fin<|bk j92 (w64 (x77 + 1)) H
 have H:=H.ct c84
 refine mvg rfl rfl rfl<|mvg rfl rfl rfl<|gr H fun g85 H=>Dv.ixs rfl (gg rfl) rfl rfl Tryz.underlying9 g85.1 g85.2<|bng rfl rfl rfl rfl run_ne<|pt0 rfl rfl rfl<|mv0 rfl rfl ?_
 cases c86:((bt a0 x77) != 45)
 ·
  have H:=H.cf c86
  refine sk rfl rfl<|sk rfl rfl<|sk rfl rfl<|sk rfl rfl<|pf0 rfl rfl rfl<|.fin<|WP.cond rfl nofun (fun _=>?_)
  exact WP.skip<|rg 3 0<|mv0 rfl rfl<|bn0 rfl rfl rfl run_add<|as0 rfl rfl<|.fin<|bk j92 (w64 (x77 + 1)) H
 have H:=H.ct c86
 refine mvg rfl rfl rfl<|mvg rfl rfl rfl<|gr H fun g87 H=>Dv.ixs rfl (gg rfl) rfl rfl Tryz.underlying9 g87.1 g87.2<|bng rfl rfl rfl rfl run_ne<|pt0 rfl rfl rfl<|.fin<|cd H rfl (fun _ H=>?_) (fun _ H=>?_)
 rotate_left
 ·
  exact WP.skip<|rg 3 0<|mv0 rfl rfl<|bn0 rfl rfl rfl run_add<|as0 rfl rfl<|.fin<|bk j92 (w64 (x77 + 1)) H
 refine WP.seq<|rg 1 0<|as0 rfl rfl<|.fin ?_
 have H:=H.outr
 cases H.out; exact r0 i2 rfl (.cons (res_tmp rfl) .nil)
theorem r01_Server.c {k:Nat} {a0:ByteArray} {r:Bool} (h:r01_Server.f k a0 = some r):Pt Tryz.prog 89 [vS a0] (vB r):=by
 unfold r01_Server.f at h
 refine pb Tryz.func89 Tryz.ntmps89 h fun R0 F H=>?_
 refine WP.seq<|rg 1 0<|as0 rfl rfl<|.fin<|WP.seqr H id (fun p94:Int×Bool=>[(0,vS a0),(2,vB false),(3,vI p94.1),(9,vB p94.2)]) (fun p94:Int×Bool=>F) (fun p94 H=>?_) (fun H=>?_)
 ·
  refine WP.seq<|rg 9 0<|mv0 rfl rfl<|Dv.lens rfl trivial rfl Tryz.underlying9<|bn0 rfl rfl rfl run_gt<|mv0 rfl rfl ?_
  cases c95:decide (0 < (a0.size:Int))
  ·
   have H:=H.cf c95
   refine sk rfl rfl<|sk rfl rfl<|sk rfl rfl<|pf0 rfl rfl rfl<|as0 rfl rfl<|.fin ?_
   cases H.out; exact r0 i2 rfl (.cons (res_tmp rfl) .nil)
  have H:=H.ct c95
  refine mvg rfl rfl rfl<|Dv.lens rfl (gg rfl) rfl Tryz.underlying9<|bng rfl rfl rfl rfl run_lt<|pt0 rfl rfl rfl<|as0 rfl rfl<|.fin ?_
  cases H.out; exact r0 i2 rfl (.cons (res_tmp rfl) .nil)
 refine WP.seq<|rg 1 0<|as0 rfl rfl<|.fin<|WP.block<|wg (sg 0 [] 0) fun _ _=>?_
 refine lp (fun j_ (p119:Int)=>r01_Server.l0 k a0 j_ p119) 0 H (fun p119=>[(0,vS a0),(2,vB false),(3,vI p119)]) (fun p119=>F) ?_
 rintro j_ x96 H
 rcases j_ with _ | j118
 ·
  exact (Gets.no H).elim
 replace H:Gets (r01_Server.l0 k a0 (j118 + 1) x96) _:=H
 rw [r01_Server.l0] at H
 refine WP.seq<|WP.seq<|rg 4 0<|mv0 rfl rfl<|mv0 rfl rfl<|Dv.lens rfl trivial rfl Tryz.underlying9<|bn0 rfl rfl rfl run_lt<|.fin<|cd H rfl (fun _ H=>?_) (fun _ H=>?_)
 rotate_left
 ·
  refine WP.exit ?_
  have H:=H.out
  exact jn (x96,decide (x96 < (a0.size:Int))) H
 refine WP.skip<|WP.seq<|WP.block<|WP.seq<|rg 5 0<|mv0 rfl rfl<|mv0 rfl rfl<|gr H fun g98 H=>Dv.ixs rfl trivial rfl rfl Tryz.underlying9 g98.1 g98.2<|el H fun t99 h100 H=>cl rfl cal86 rfl (r01_low.c h100)<|as0 rfl rfl<|.fin<|WP.seq<|rg 22 0<|mv0 rfl rfl<|bn0 rfl rfl rfl run_gt<|mv0 rfl rfl ?_
 cases c101:decide (0 < x96)
 ·
  have H:=H.cf c101
  refine sk rfl rfl<|sk rfl rfl<|sk rfl rfl<|sk rfl rfl<|sk rfl rfl<|pf0 rfl rfl rfl<|mv0 rfl rfl<|sk rfl rfl<|sk rfl rfl<|sk rfl rfl<|sk rfl rfl<|sk rfl rfl<|sku rfl rfl<|sku rfl rfl<|sku rfl rfl<|sku rfl rfl<|sk rfl rfl<|pf0 rfl rfl rfl<|as0 rfl rfl<|.fin<|WP.seq<|rg 6 0<|mv0 rfl rfl<|un0 rfl rfl (run_not _)<|mv0 rfl rfl ?_
  cases c115:!t99
  ·
   have H:=H.cf c115
   refine sk rfl rfl<|sk rfl rfl<|pf0 rfl rfl rfl<|.fin<|WP.cond rfl nofun (fun _=>?_)
   exact WP.skip<|rg 3 0<|mv0 rfl rfl<|bn0 rfl rfl rfl run_add<|as0 rfl rfl<|.fin<|bk j118 (w64 (x96 + 1)) H
  have H:=H.ct c115
  refine mvg rfl rfl rfl<|ung rfl rfl rfl (run_not _)<|pt0 rfl rfl rfl<|.fin<|WP.cond rfl (fun _=>?_) nofun
  refine WP.seq<|rg 1 0<|as0 rfl rfl<|.fin ?_
  have H:=H.outr
  cases H.out; exact r0 i2 rfl (.cons (res_tmp rfl) .nil)
 have H:=H.ct c101
 refine mvg rfl rfl rfl<|mvg rfl rfl rfl<|Dv.lens rfl (gg rfl) rfl Tryz.underlying9<|bng rfl rfl rfl rfl run_sub<|bng rfl rfl rfl rfl run_lt<|pt0 rfl rfl rfl<|mv0 rfl rfl ?_
 cases c102:decide (x96 < (w64 ((a0.size:Int) - 1)))
 ·
  have H:=H.cf c102
  refine sk rfl rfl<|sk rfl rfl<|sk rfl rfl<|sk rfl rfl<|sk rfl rfl<|sku rfl rfl<|sku rfl rfl<|sku rfl rfl<|sku rfl rfl<|sk rfl rfl<|pf0 rfl rfl rfl<|as0 rfl rfl<|.fin<|WP.seq<|rg 6 0<|mv0 rfl rfl<|un0 rfl rfl (run_not _)<|mv0 rfl rfl ?_
  cases c112:!t99
  ·
   have H:=H.cf c112
   refine sk rfl rfl<|sk rfl rfl<|pf0 rfl rfl rfl<|.fin<|WP.cond rfl nofun (fun _=>?_)
   exact WP.skip<|rg 3 0<|mv0 rfl rfl<|bn0 rfl rfl rfl run_add<|as0 rfl rfl<|.fin<|bk j118 (w64 (x96 + 1)) H
  have H:=H.ct c112
  refine mvg rfl rfl rfl<|ung rfl rfl rfl (run_not _)<|pt0 rfl rfl rfl<|.fin<|WP.cond rfl (fun _=>?_) nofun
  refine WP.seq<|rg 1 0<|as0 rfl rfl<|.fin ?_
  have H:=H.outr
  cases H.out; exact r0 i2 rfl (.cons (res_tmp rfl) .nil)
 have H:=H.ct c102
 refine mvg rfl rfl rfl<|mvg rfl rfl rfl<|gr H fun g103 H=>Dv.ixs rfl (gg rfl) rfl rfl Tryz.underlying9 g103.1 g103.2<|bng rfl rfl rfl rfl run_eq<|mvg rfl rfl rfl ?_
 cases c104:((bt a0 x96) == 46)
 rotate_left
 ·
  have H:=H.ct c104
  refine sk rfl rfl<|sk rfl rfl<|sk rfl rfl<|sk rfl rfl<|ptg rfl rfl rfl rfl<|pt0 rfl rfl rfl<|as0 rfl rfl<|.fin<|WP.seq<|rg 6 0<|mv0 rfl rfl<|un0 rfl rfl (run_not _)<|mv0 rfl rfl ?_
  cases c105:!t99
  ·
   have H:=H.cf c105
   refine sk rfl rfl<|sk rfl rfl<|pf0 rfl rfl rfl<|.fin<|WP.cond rfl nofun (fun _=>?_)
   exact WP.skip<|rg 3 0<|mv0 rfl rfl<|bn0 rfl rfl rfl run_add<|as0 rfl rfl<|.fin<|bk j118 (w64 (x96 + 1)) H
  have H:=H.ct c105
  refine mvg rfl rfl rfl<|ung rfl rfl rfl (run_not _)<|pt0 rfl rfl rfl<|.fin<|WP.cond rfl nofun (fun _=>?_)
  exact WP.skip<|rg 3 0<|mv0 rfl rfl<|bn0 rfl rfl rfl run_add<|as0 rfl rfl<|.fin<|bk j118 (w64 (x96 + 1)) H
 have H:=H.cf c104
 refine mvg rfl rfl rfl<|mvg rfl rfl rfl<|gr H fun g108 H=>Dv.ixs rfl (gg rfl) rfl rfl Tryz.underlying9 g108.1 g108.2<|bng rfl rfl rfl rfl run_eq<|pfg rfl rfl rfl rfl<|pt0 rfl rfl rfl<|as0 rfl rfl<|.fin<|WP.seq<|rg 6 0<|mv0 rfl rfl<|un0 rfl rfl (run_not _)<|mv0 rfl rfl ?_
 cases c109:!t99
 ·
  have H:=H.cf c109
  refine sk rfl rfl<|sk rfl rfl<|pf0 rfl rfl rfl<|.fin<|WP.cond rfl nofun (fun _=>?_)
  exact WP.skip<|rg 3 0<|mv0 rfl rfl<|bn0 rfl rfl rfl run_add<|as0 rfl rfl<|.fin<|bk j118 (w64 (x96 + 1)) H
 have H:=H.ct c109
 refine mvg rfl rfl rfl<|ung rfl rfl rfl (run_not _)<|pt0 rfl rfl rfl<|.fin<|cd H rfl (fun _ H=>?_) (fun _ H=>?_)
 rotate_left
 ·
  exact WP.skip<|rg 3 0<|mv0 rfl rfl<|bn0 rfl rfl rfl run_add<|as0 rfl rfl<|.fin<|bk j118 (w64 (x96 + 1)) H
 refine WP.seq<|rg 1 0<|as0 rfl rfl<|.fin ?_
 have H:=H.outr
 cases H.out; exact r0 i2 rfl (.cons (res_tmp rfl) .nil)
theorem r01_Named.c {k:Nat} {a0:ByteArray} {a1:Int} {r:Bool} (h:r01_Named.f k a0 a1 = some r):Pt Tryz.prog 72 [vS a0,eq (.int .u8 a1)] (vB r):=by
 unfold r01_Named.f at h
 refine pb Tryz.func72 Tryz.ntmps72 h fun R0 F H=>?_
 refine WP.seq<|rg 1 0<|as0 rfl rfl<|.fin<|WP.seq<|rg 3 0<|mv0 rfl rfl<|el H fun t120 h121 H=>cl rfl cal87 rfl (r01_colon.c h121)<|as0 rfl rfl<|.fin<|WP.seq<|WP.seq<|rg 8 0<|mv0 rfl rfl<|bn0 rfl rfl rfl run_lt<|mv0 rfl rfl ?_
 cases c122:decide (t120 < 1)
 rotate_left
 ·
  have H:=H.ct c122
  refine sk rfl rfl<|sk rfl rfl<|sk rfl rfl<|sk rfl rfl<|pt0 rfl rfl rfl<|.fin<|WP.cond rfl (fun _=>?_) nofun
  refine WP.seq<|rg 1 0<|as0 rfl rfl<|.fin ?_
  cases H.out; exact r0 i2 rfl (.cons (res_tmp rfl) .nil)
 have H:=H.cf c122
 refine mvg rfl rfl rfl<|gr H fun g124 H=>Dv.ixs rfl (gg rfl) rfl rfl Tryz.underlying9 g124.1 g124.2<|mvg rfl rfl rfl<|bng rfl rfl rfl rfl run_ne<|pf0 rfl rfl rfl<|.fin<|cd H rfl (fun _ H=>?_) (fun _ H=>?_)
 ·
  refine WP.seq<|rg 1 0<|as0 rfl rfl<|.fin ?_
  cases H.out; exact r0 i2 rfl (.cons (res_tmp rfl) .nil)
 refine WP.skip<|WP.seq<|rg 5 0<|mv0 rfl rfl<|mv0 rfl rfl<|gr H fun g126 H=>Dv.sss rfl trivial rfl Tryz.underlying9 (bdE_some rfl g126.1) (bdE_some rfl g126.2.1) g126.2.2.1 g126.2.2.2<|el H fun t127 h128 H=>cl rfl cal88 rfl (r01_Part.c h128)<|as0 rfl rfl<|.fin<|WP.seq<|rg 6 0<|mv0 rfl rfl<|mv0 rfl rfl<|bn0 rfl rfl rfl run_add<|gr H fun g129 H=>Dv.sss rfl trivial rfl Tryz.underlying9 (bdE_some rfl g129.1) bdE_none g129.2.1 g129.2.2<|el H fun t130 h131 H=>cl rfl cal89 rfl (r01_Server.c h131)<|as0 rfl rfl<|.fin<|WP.seq<|rg 5 0<|mv0 rfl rfl<|mv0 rfl rfl ?_
 cases c132:t127
 ·
  have H:=H.cf c132
  refine sk rfl rfl<|pf0 rfl rfl rfl<|as0 rfl rfl<|.fin ?_
  cases H.out; exact r0 i2 rfl (.cons (res_tmp rfl) .nil)
 have H:=H.ct c132
 refine mvg rfl rfl rfl<|pt0 rfl rfl rfl<|as0 rfl rfl<|.fin ?_
 cases H.out; exact r0 i2 rfl (.cons (res_tmp rfl) .nil)
theorem r07_May.c {k:Nat} {a0:Event} {r:Bool} (h:r07_May.f k a0 = some r):Pt Tryz.prog 52 [agg (Event.enc a0)] (vB r):=by
 unfold r07_May.f at h
 refine pb Tryz.func52 Tryz.ntmps52 h fun R0 F H=>?_
 refine WP.seq<|rg 2 1<|Dv.box rfl trivial rfl cA nofun fun b133=>as0 rfl rfl<|.fin<|WP.seq<|rg 4 0<|fb rfl trivial rfl fa40_0<|ld 0 rfl trivial rfl sc9 rfl rfl<|el H fun t134 h135 H=>cl rfl cal71 rfl (r01_Event.c h135)<|as0 rfl rfl<|.fin<|WP.seq<|rg 4 0<|fb rfl trivial rfl fa40_1<|ld 0 rfl trivial rfl sc9 rfl rfl<|el H fun t136 h137 H=>cl rfl cal72 rfl (r01_Named.c h137)<|as0 rfl rfl<|.fin<|WP.seq<|rg 4 0<|fb rfl trivial rfl fa40_4<|ld 0 rfl trivial rfl sc9 rfl rfl<|el H fun t138 h139 H=>cl rfl cal72 rfl (r01_Named.c h139)<|as0 rfl rfl<|.fin<|WP.seq<|WP.seq<|rg 26 0<|mv0 rfl rfl<|un0 rfl rfl (run_not _)<|mv0 rfl rfl ?_
 cases c140:!t134
 rotate_left
 ·
  have H:=H.ct c140
  refine sk rfl rfl<|sk rfl rfl<|pt0 rfl rfl rfl<|mv0 rfl rfl<|sk rfl rfl<|sk rfl rfl<|pt0 rfl rfl rfl<|mv0 rfl rfl<|sk rfl rfl<|sk rfl rfl<|sk rfl rfl<|sk rfl rfl<|pt0 rfl rfl rfl<|mv0 rfl rfl<|sk rfl rfl<|sk rfl rfl<|sk rfl rfl<|pt0 rfl rfl rfl<|mv0 rfl rfl<|sk rfl rfl<|sk rfl rfl<|sk rfl rfl<|pt0 rfl rfl rfl<|.fin<|WP.cond rfl (fun _=>?_) nofun
  refine WP.seq<|rg 1 0<|as0 rfl rfl<|.fin ?_
  cases H.out; exact r1 i2 rfl (.cons (res_tmp rfl) .nil)
 have H:=H.cf c140
 refine mvg rfl rfl rfl<|ung rfl rfl rfl (run_not _)<|pf0 rfl rfl rfl<|mv0 rfl rfl ?_
 cases c142:!t136
 rotate_left
 ·
  have H:=H.ct c142
  refine sk rfl rfl<|sk rfl rfl<|pt0 rfl rfl rfl<|mv0 rfl rfl<|sk rfl rfl<|sk rfl rfl<|sk rfl rfl<|sk rfl rfl<|pt0 rfl rfl rfl<|mv0 rfl rfl<|sk rfl rfl<|sk rfl rfl<|sk rfl rfl<|pt0 rfl rfl rfl<|mv0 rfl rfl<|sk rfl rfl<|sk rfl rfl<|sk rfl rfl<|pt0 rfl rfl rfl<|.fin<|WP.cond rfl (fun _=>?_) nofun
  refine WP.seq<|rg 1 0<|as0 rfl rfl<|.fin ?_
  cases H.out; exact r1 i2 rfl (.cons (res_tmp rfl) .nil)
 have H:=H.cf c142
 refine mvg rfl rfl rfl<|ung rfl rfl rfl (run_not _)<|pf0 rfl rfl rfl<|mv0 rfl rfl ?_
 cases c144:!t138
 rotate_left
 ·
  have H:=H.ct c144
  refine sk rfl rfl<|sk rfl rfl<|sk rfl rfl<|sk rfl rfl<|pt0 rfl rfl rfl<|mv0 rfl rfl<|sk rfl rfl<|sk rfl rfl<|sk rfl rfl<|pt0 rfl rfl rfl<|mv0 rfl rfl<|sk rfl rfl<|sk rfl rfl<|sk rfl rfl<|pt0 rfl rfl rfl<|.fin<|WP.cond rfl (fun _=>?_) nofun
  refine WP.seq<|rg 1 0<|as0 rfl rfl<|.fin ?_
  cases H.out; exact r1 i2 rfl (.cons (res_tmp rfl) .nil)
 have H:=H.cf c144
 refine fb rfl (gg rfl) rfl fa40_2<|ld 0 rfl (gg rfl) rfl sc38 rfl rfl<|Dv.lenl rfl (gg rfl) rfl Tryz.underlying38<|bng rfl rfl rfl rfl run_gt<|pf0 rfl rfl rfl<|mv0 rfl rfl ?_
 cases c146:decide (4 < (a0.fParents.length:Int))
 rotate_left
 ·
  have H:=H.ct c146
  refine sk rfl rfl<|sk rfl rfl<|sk rfl rfl<|pt0 rfl rfl rfl<|mv0 rfl rfl<|sk rfl rfl<|sk rfl rfl<|sk rfl rfl<|pt0 rfl rfl rfl<|.fin<|WP.cond rfl (fun _=>?_) nofun
  refine WP.seq<|rg 1 0<|as0 rfl rfl<|.fin ?_
  cases H.out; exact r1 i2 rfl (.cons (res_tmp rfl) .nil)
 have H:=H.cf c146
 refine fb rfl (gg rfl) rfl fa40_5<|ld 0 rfl (gg rfl) rfl sc3 rfl rfl<|bng rfl rfl rfl rfl run_lt<|pf0 rfl rfl rfl<|mv0 rfl rfl ?_
 cases c148:decide (a0.fDoes < 0)
 rotate_left
 ·
  have H:=H.ct c148
  refine sk rfl rfl<|sk rfl rfl<|sk rfl rfl<|pt0 rfl rfl rfl<|.fin<|WP.cond rfl (fun _=>?_) nofun
  refine WP.seq<|rg 1 0<|as0 rfl rfl<|.fin ?_
  cases H.out; exact r1 i2 rfl (.cons (res_tmp rfl) .nil)
 have H:=H.cf c148
 refine fb rfl (gg rfl) rfl fa40_5<|ld 0 rfl (gg rfl) rfl sc3 rfl rfl<|bng rfl rfl rfl rfl run_gt<|pf0 rfl rfl rfl<|.fin<|cd H rfl (fun _ H=>?_) (fun _ H=>?_)
 ·
  refine WP.seq<|rg 1 0<|as0 rfl rfl<|.fin ?_
  cases H.out; exact r1 i2 rfl (.cons (res_tmp rfl) .nil)
 refine WP.skip<|WP.seqr H id (fun p151:Unit=>[(0,agg (Event.enc a0)),(1,eq (.pointer (some ⟨b133,0,none⟩))),(2,vB false),(3,vB t134),(4,vB t136),(5,vB t138),(43,vB (decide (2 < a0.fDoes))),(46,vB (!decide (a0.fThread = (⟨#[]⟩:ByteArray))))]) (fun p151:Unit=>[blk b133 40 (Event.enc a0)]++F) (fun p151 H=>?_) (fun H=>?_)
 rotate_left
 ·
  refine WP.seq<|rg 3 0<|fb rfl trivial rfl fa40_3<|ld 0 rfl trivial rfl sc9 rfl rfl<|bn0 rfl rfl rfl run_sne<|.fin<|cd H rfl (fun _ H=>?_) (fun _ H=>?_)
  rotate_left
  ·
   refine WP.skip ?_
   have H:=H.out
   exact jn () H
  refine WP.seq<|rg 4 0<|fb rfl trivial rfl fa40_3<|ld 0 rfl trivial rfl sc9 rfl rfl<|el H fun t170 h171 H=>cl rfl cal71 rfl (r01_Event.c h171)<|as0 rfl rfl<|.fin<|WP.seq<|rg 14 0<|mv0 rfl rfl<|un0 rfl rfl (run_not _)<|mv0 rfl rfl ?_
  cases c172:!t170
  rotate_left
  ·
   have H:=H.ct c172
   refine sk rfl rfl<|sk rfl rfl<|sk rfl rfl<|sk rfl rfl<|sk rfl rfl<|pt0 rfl rfl rfl<|mv0 rfl rfl<|sk rfl rfl<|sk rfl rfl<|sk rfl rfl<|pt0 rfl rfl rfl<|.fin<|WP.cond rfl (fun _=>?_) nofun
   refine WP.seq<|rg 1 0<|as0 rfl rfl<|.fin ?_
   have H:=H.outr
   cases H.out; exact r1 i2 rfl (.cons (res_tmp rfl) .nil)
  have H:=H.cf c172
  refine fb rfl (gg rfl) rfl fa40_3<|ld 0 rfl (gg rfl) rfl sc9 rfl rfl<|fb rfl (gg rfl) rfl fa40_0<|ld 0 rfl (gg rfl) rfl sc9 rfl rfl<|bng rfl rfl rfl rfl run_seq<|pf0 rfl rfl rfl<|mv0 rfl rfl ?_
  cases c174:decide (a0.fThread = a0.fID)
  rotate_left
  ·
   have H:=H.ct c174
   refine sk rfl rfl<|sk rfl rfl<|sk rfl rfl<|pt0 rfl rfl rfl<|.fin<|WP.cond rfl (fun _=>?_) nofun
   refine WP.seq<|rg 1 0<|as0 rfl rfl<|.fin ?_
   have H:=H.outr
   cases H.out; exact r1 i2 rfl (.cons (res_tmp rfl) .nil)
  have H:=H.cf c174
  refine fb rfl (gg rfl) rfl fa40_5<|ld 0 rfl (gg rfl) rfl sc3 rfl rfl<|bng rfl rfl rfl rfl run_ne<|pf0 rfl rfl rfl<|.fin<|cd H rfl (fun _ H=>?_) (fun _ H=>?_)
  rotate_left
  ·
   refine WP.skip ?_
   have H:=H.out
   exact jn () H
  refine WP.seq<|rg 1 0<|as0 rfl rfl<|.fin ?_
  have H:=H.outr
  cases H.out; exact r1 i2 rfl (.cons (res_tmp rfl) .nil)
 refine WP.seqr H id (fun p152:Int×Bool=>[(0,agg (Event.enc a0)),(1,eq (.pointer (some ⟨b133,0,none⟩))),(2,vB false),(3,vB t134),(4,vB t136),(5,vB t138),(7,vI p152.1),(43,vB (decide (2 < a0.fDoes))),(46,vB (!decide (a0.fThread = (⟨#[]⟩:ByteArray)))),(68,vB p152.2)]) (fun p152:Int×Bool=>[blk b133 40 (Event.enc a0)]++F) (fun p152 H=>?_) (fun H=>?_)
 ·
  refine WP.seq<|rg 1 0<|as0 rfl rfl<|.fin ?_
  cases H.out; exact r1 i2 rfl (.cons (res_tmp rfl) .nil)
 refine WP.seq<|rg 1 0<|as0 rfl rfl<|.fin<|WP.block<|wg (sg 1 [0] 0) fun _ _=>?_
 refine lp (fun j_ (p168:Int)=>r07_May.l0 k a0 j_ p168) 0 H (fun p168=>[(0,agg (Event.enc a0)),(1,eq (.pointer (some ⟨b133,0,none⟩))),(2,vB false),(3,vB t134),(4,vB t136),(5,vB t138),(7,vI p168),(43,vB (decide (2 < a0.fDoes))),(46,vB (!decide (a0.fThread = (⟨#[]⟩:ByteArray))))]) (fun p168=>[blk b133 40 (Event.enc a0)]++F) ?_
 rintro j_ x153 H
 rcases j_ with _ | j167
 ·
  exact (Gets.no H).elim
 replace H:Gets (r07_May.l0 k a0 (j167 + 1) x153) _:=H
 rw [r07_May.l0] at H
 refine WP.seq<|WP.seq<|rg 5 0<|mv0 rfl rfl<|fb rfl trivial rfl fa40_2<|ld 0 rfl trivial rfl sc38 rfl rfl<|Dv.lenl rfl trivial rfl Tryz.underlying38<|bn0 rfl rfl rfl run_lt<|.fin<|cd H rfl (fun _ H=>?_) (fun _ H=>?_)
 rotate_left
 ·
  refine WP.exit ?_
  have H:=H.out
  exact jn (x153,decide (x153 < (a0.fParents.length:Int))) H
 refine WP.skip<|WP.seq<|WP.block<|WP.seq<|rg 7 0<|fb rfl trivial rfl fa40_2<|ld 0 rfl trivial rfl sc38 rfl rfl<|mv0 rfl rfl<|gr H fun g155 H=>Dv.ixr rfl trivial rfl rfl Tryz.underlying38 Tryz.underlying9 c9 g155.1 g155.2<|ldR rfl trivial rfl sc9 rfl<|el H fun t156 h157 H=>cl rfl cal71 rfl (r01_Event.c h157)<|as0 rfl rfl<|.fin<|WP.seq<|WP.seq<|dg Tryz.checked.mixed 12 0<|mv0 rfl rfl<|un0 rfl rfl (run_not _)<|mv0 rfl rfl ?_
 cases c158:!t156
 rotate_left
 ·
  have H:=H.ct c158
  refine sk rfl rfl<|sk rfl rfl<|sk rfl rfl<|sk rfl rfl<|sk rfl rfl<|sk rfl rfl<|sk rfl rfl<|sk rfl rfl<|pt0 rfl rfl rfl<|.fin<|WP.cond rfl (fun _=>?_) nofun
  refine WP.seq<|rg 1 0<|as0 rfl rfl<|.fin ?_
  have H:=H.outr
  cases H.out; exact r1 i2 rfl (.cons (res_tmp rfl) .nil)
 have H:=H.cf c158
 refine fb rfl (gg rfl) rfl fa40_2<|ld 0 rfl (gg rfl) rfl sc38 rfl rfl<|mvg rfl rfl rfl<|gr H fun g160 H=>Dv.ixr rfl (gg rfl) rfl rfl Tryz.underlying38 Tryz.underlying9 c9 g160.1 g160.2<|ldR rfl (gg rfl) rfl sc9 rfl<|fb rfl (gg rfl) rfl fa40_0<|ld 0 rfl (gg rfl) rfl sc9 rfl rfl<|bng rfl rfl rfl rfl run_seq<|pf0 rfl rfl rfl<|.fin<|cd H rfl (fun _ H=>?_) (fun _ H=>?_)
 ·
  refine WP.seq<|rg 1 0<|as0 rfl rfl<|.fin ?_
  have H:=H.outr
  cases H.out; exact r1 i2 rfl (.cons (res_tmp rfl) .nil)
 refine WP.skip<|WP.seq<|dg Tryz.checked.mixed 17 0<|mv0 rfl rfl<|bn0 rfl rfl rfl run_gt<|mv0 rfl rfl ?_
 cases c162:decide (0 < x153)
 ·
  have H:=H.cf c162
  refine sk rfl rfl<|sk rfl rfl<|sk rfl rfl<|sk rfl rfl<|sk rfl rfl<|sk rfl rfl<|sk rfl rfl<|sk rfl rfl<|sk rfl rfl<|sk rfl rfl<|sk rfl rfl<|sk rfl rfl<|sk rfl rfl<|pf0 rfl rfl rfl<|.fin<|WP.cond rfl nofun (fun _=>?_)
  exact WP.skip<|rg 3 0<|mv0 rfl rfl<|bn0 rfl rfl rfl run_add<|as0 rfl rfl<|.fin<|bk j167 (w64 (x153 + 1)) H
 have H:=H.ct c162
 refine fb rfl (gg rfl) rfl fa40_2<|ld 0 rfl (gg rfl) rfl sc38 rfl rfl<|mvg rfl rfl rfl<|bng rfl rfl rfl rfl run_sub<|Dv.maxi rfl (gg rfl) rfl rfl<|gr H fun g163 H=>Dv.ixr rfl (gg rfl) rfl rfl Tryz.underlying38 Tryz.underlying9 c9 g163.1 g163.2<|ldR rfl (gg rfl) rfl sc9 rfl<|fb rfl (gg rfl) rfl fa40_2<|ld 0 rfl (gg rfl) rfl sc38 rfl rfl<|mvg rfl rfl rfl<|gr H fun g164 H=>Dv.ixr rfl (gg rfl) rfl rfl Tryz.underlying38 Tryz.underlying9 c9 g164.1 g164.2<|ldR rfl (gg rfl) rfl sc9 rfl<|bng rfl rfl rfl rfl run_sge<|pt0 rfl rfl rfl<|.fin<|cd H rfl (fun _ H=>?_) (fun _ H=>?_)
 rotate_left
 ·
  exact WP.skip<|rg 3 0<|mv0 rfl rfl<|bn0 rfl rfl rfl run_add<|as0 rfl rfl<|.fin<|bk j167 (w64 (x153 + 1)) H
 refine WP.seq<|rg 1 0<|as0 rfl rfl<|.fin ?_
 have H:=H.outr
 cases H.out; exact r1 i2 rfl (.cons (res_tmp rfl) .nil)
theorem r07_At.c {k:Nat} {a0:RDag} {a1:ByteArray} {r:Int} (h:r07_At.f k a0 a1 = some r):Pt Tryz.prog 53 [agg (RDag.enc a0),vS a1] (vI r):=by
 unfold r07_At.f at h
 refine pb Tryz.func53 Tryz.ntmps53 h fun R0 F H=>?_
 refine WP.seq<|rg 2 1<|Dv.box rfl trivial rfl cA nofun fun b177=>as0 rfl rfl<|.fin<|WP.seqr H id (fun p178:Int×Bool=>[(0,agg (RDag.enc a0)),(1,vS a1),(2,eq (.pointer (some ⟨b177,0,none⟩))),(4,vI 0),(5,vI p178.1),(10,vB p178.2)]) (fun p178:Int×Bool=>[blk b177 52 (RDag.enc a0)]++F) (fun p178 H=>?_) (fun H=>?_)
 ·
  refine WP.seq<|rg 1 0<|as0 rfl rfl<|.fin ?_
  cases H.out; exact r1 i2 rfl (.cons (res_tmp rfl) .nil)
 refine WP.seq<|rg 1 0<|as0 rfl rfl<|.fin<|WP.block<|wg (sg 1 [0] 0) fun _ _=>?_
 refine lp (fun j_ (p184:Int)=>r07_At.l0 k a0 a1 j_ p184) 0 H (fun p184=>[(0,agg (RDag.enc a0)),(1,vS a1),(2,eq (.pointer (some ⟨b177,0,none⟩))),(4,vI 0),(5,vI p184)]) (fun p184=>[blk b177 52 (RDag.enc a0)]++F) ?_
 rintro j_ x179 H
 rcases j_ with _ | j183
 ·
  exact (Gets.no H).elim
 replace H:Gets (r07_At.l0 k a0 a1 (j183 + 1) x179) _:=H
 rw [r07_At.l0] at H
 refine WP.seq<|WP.seq<|rg 5 0<|mv0 rfl rfl<|fb rfl trivial rfl fa52_1<|ld 0 rfl trivial rfl sc33 rfl rfl<|Dv.lenl rfl trivial rfl Tryz.underlying33<|bn0 rfl rfl rfl run_lt<|.fin<|cd H rfl (fun _ H=>?_) (fun _ H=>?_)
 rotate_left
 ·
  refine WP.exit ?_
  have H:=H.out
  exact jn (x179,decide (x179 < (a0.fL.length:Int))) H
 refine WP.skip<|WP.seq<|WP.block<|WP.seq<|rg 8 0<|fb rfl trivial rfl fa52_1<|ld 0 rfl trivial rfl sc33 rfl rfl<|mv0 rfl rfl<|gr H fun g181 H=>Dv.ixr rfl trivial rfl rfl Tryz.underlying33 Tryz.underlying40 c40 g181.1 g181.2<|fr rfl trivial rfl fa40_0 rfl<|ldR rfl trivial rfl sc9 rfl<|mv0 rfl rfl<|bn0 rfl rfl rfl run_seq<|.fin<|cd H rfl (fun _ H=>?_) (fun _ H=>?_)
 rotate_left
 ·
  exact WP.skip<|rg 3 0<|mv0 rfl rfl<|bn0 rfl rfl rfl run_add<|as0 rfl rfl<|.fin<|bk j183 (w64 (x179 + 1)) H
 refine WP.seq<|rg 2 0<|mv0 rfl rfl<|as0 rfl rfl<|.fin ?_
 have H:=H.outr
 cases H.out; exact r1 i2 rfl (.cons (res_tmp rfl) .nil)
theorem r07_Add.c {k:Nat} {a0:RDag} {a1:Event} {r:RDag×Int} (h:r07_Add.f k a0 a1 = some r):Pt Tryz.prog 37 [agg (RDag.enc a0),agg (Event.enc a1)] (tup [agg (RDag.enc r.1),vI r.2]):=by
 unfold r07_Add.f at h
 refine pb Tryz.func37 Tryz.ntmps37 h fun R0 F H=>?_
 refine WP.seq<|rg 4 7<|Dv.box rfl trivial rfl cA nofun fun b185=>Dv.box rfl trivial rfl cA nofun fun b186=>al rfl trivial zc52 nofun fun b187=>as0 rfl rfl<|.fin<|WP.seq<|rg 3 0<|lds 1 rfl trivial rfl sg40 rfl rfl<|el H fun t188 h189 H=>cl rfl cal52 rfl (r07_May.c h189)<|as0 rfl rfl<|.fin<|WP.seq<|WP.seq<|rg 9 0<|mv0 rfl rfl<|un0 rfl rfl (run_not _)<|mv0 rfl rfl ?_
 cases c190:!t188
 rotate_left
 ·
  have H:=H.ct c190
  refine sk rfl rfl<|sk rfl rfl<|sk rfl rfl<|sk rfl rfl<|sk rfl rfl<|pt0 rfl rfl rfl<|.fin<|WP.cond rfl (fun _=>?_) nofun
  refine WP.seq<|rg 3 2<|lds 2 rfl trivial rfl sg52 rfl rfl<|sx 0 rfl trivial rfl rfl cA sz52 rfl rfl rfl nofun ?_
  refine as0 rfl rfl<|.fin ?_
  cases H.out; exact r3 i2 rfl (.cons (res_cells rfl Tryz.underlying52 rfl c52 (mem_at 0 rfl) rfl) (.cons (res_tmp rfl) .nil))
 have H:=H.cf c190
 refine fb rfl (gg rfl) rfl fa40_1<|ld 1 rfl (gg rfl) rfl sc9 rfl rfl<|fb rfl (gg rfl) rfl fa52_0<|ld 2 rfl (gg rfl) rfl sc9 rfl rfl<|bng rfl rfl rfl rfl run_sne<|pf0 rfl rfl rfl<|.fin<|cd H rfl (fun _ H=>?_) (fun _ H=>?_)
 ·
  refine WP.seq<|rg 3 2<|lds 2 rfl trivial rfl sg52 rfl rfl<|sx 0 rfl trivial rfl rfl cA sz52 rfl rfl rfl nofun ?_
  refine as0 rfl rfl<|.fin ?_
  cases H.out; exact r3 i2 rfl (.cons (res_cells rfl Tryz.underlying52 rfl c52 (mem_at 0 rfl) rfl) (.cons (res_tmp rfl) .nil))
 refine WP.skip<|WP.seq<|WP.seq<|rg 5 0<|lds 2 rfl trivial rfl sg52 rfl rfl<|fb rfl trivial rfl fa40_0<|ld 1 rfl trivial rfl sc9 rfl rfl<|el H fun t193 h194 H=>cl rfl cal53 rfl (r07_At.c h194)<|bn0 rfl rfl rfl run_ge<|.fin<|cd H rfl (fun _ H=>?_) (fun _ H=>?_)
 ·
  refine WP.seq<|rg 3 2<|lds 2 rfl trivial rfl sg52 rfl rfl<|sx 0 rfl trivial rfl rfl cA sz52 rfl rfl rfl nofun ?_
  refine as0 rfl rfl<|.fin ?_
  cases H.out; exact r3 i2 rfl (.cons (res_cells rfl Tryz.underlying52 rfl c52 (mem_at 0 rfl) rfl) (.cons (res_tmp rfl) .nil))
 refine WP.skip<|WP.seqr H id (fun p196:Int×Bool=>[(0,agg (RDag.enc a0)),(1,agg (Event.enc a1)),(2,eq (.pointer (some ⟨b185,0,none⟩))),(3,eq (.pointer (some ⟨b186,0,none⟩))),(4,eq (.pointer (some ⟨b187,0,none⟩))),(5,vI 0),(6,vB t188),(7,vI p196.1),(20,vB (!decide (a1.fRoom = a0.fRoom))),(26,vB (decide (0≤t193))),(32,vB p196.2)]) (fun p196:Int×Bool=>[blk b187 52 [vS (⟨#[]⟩:ByteArray),eq (.slice none 0 0)],blk b186 40 (Event.enc a1),blk b185 52 (RDag.enc a0)]++F) (fun p196 H=>?_) (fun H=>?_)
 rotate_left
 ·
  refine WP.seq<|rg 1 0<|as0 rfl rfl<|.fin<|WP.block<|wg (sg 3 [0,1,2] 0) fun _ _=>?_
  refine lp (fun j_ (p218:Int)=>r07_Add.l0 k a0 a1 j_ p218) 0 H (fun p218=>[(0,agg (RDag.enc a0)),(1,agg (Event.enc a1)),(2,eq (.pointer (some ⟨b185,0,none⟩))),(3,eq (.pointer (some ⟨b186,0,none⟩))),(4,eq (.pointer (some ⟨b187,0,none⟩))),(5,vI 0),(6,vB t188),(7,vI p218),(20,vB (!decide (a1.fRoom = a0.fRoom))),(26,vB (decide (0≤t193)))]) (fun p218=>[blk b187 52 [vS (⟨#[]⟩:ByteArray),eq (.slice none 0 0)],blk b186 40 (Event.enc a1),blk b185 52 (RDag.enc a0)]++F) ?_
  rintro j_ x211 H
  rcases j_ with _ | j217
  ·
   exact (Gets.no H).elim
  replace H:Gets (r07_Add.l0 k a0 a1 (j217 + 1) x211) _:=H
  rw [r07_Add.l0] at H
  refine WP.seq<|WP.seq<|rg 5 0<|mv0 rfl rfl<|fb rfl trivial rfl fa40_2<|ld 1 rfl trivial rfl sc38 rfl rfl<|Dv.lenl rfl trivial rfl Tryz.underlying38<|bn0 rfl rfl rfl run_lt<|.fin<|cd H rfl (fun _ H=>?_) (fun _ H=>?_)
  rotate_left
  ·
   refine WP.exit ?_
   have H:=H.out
   exact jn (x211,decide (x211 < (a1.fParents.length:Int))) H
  refine WP.skip<|WP.seq<|WP.block<|WP.seq<|dg Tryz.checked.mixed 8 0<|lds 2 rfl trivial rfl sg52 rfl rfl<|fb rfl trivial rfl fa40_2<|ld 1 rfl trivial rfl sc38 rfl rfl<|mv0 rfl rfl<|gr H fun g213 H=>Dv.ixr rfl trivial rfl rfl Tryz.underlying38 Tryz.underlying9 c9 g213.1 g213.2<|ldR rfl trivial rfl sc9 rfl<|el H fun t214 h215 H=>cl rfl cal53 rfl (r07_At.c h215)<|bn0 rfl rfl rfl run_lt<|.fin<|cd H rfl (fun _ H=>?_) (fun _ H=>?_)
  rotate_left
  ·
   exact WP.skip<|rg 3 0<|mv0 rfl rfl<|bn0 rfl rfl rfl run_add<|as0 rfl rfl<|.fin<|bk j217 (w64 (x211 + 1)) H
  refine WP.seq<|rg 3 2<|lds 2 rfl trivial rfl sg52 rfl rfl<|sx 0 rfl trivial rfl rfl cA sz52 rfl rfl rfl nofun ?_
  refine as0 rfl rfl<|.fin ?_
  have H:=H.outr
  cases H.out; exact r3 i2 rfl (.cons (res_cells rfl Tryz.underlying52 rfl c52 (mem_at 0 rfl) rfl) (.cons (res_tmp rfl) .nil))
 refine WP.seqr H id (fun p197:Unit=>[(0,agg (RDag.enc a0)),(1,agg (Event.enc a1)),(2,eq (.pointer (some ⟨b185,0,none⟩))),(3,eq (.pointer (some ⟨b186,0,none⟩))),(4,eq (.pointer (some ⟨b187,0,none⟩))),(5,vI 0),(6,vB t188),(7,vI p196.1),(20,vB (!decide (a1.fRoom = a0.fRoom))),(26,vB (decide (0≤t193))),(32,vB p196.2),(46,vB (!decide (a1.fThread = (⟨#[]⟩:ByteArray))))]) (fun p197:Unit=>[blk b187 52 [vS (⟨#[]⟩:ByteArray),eq (.slice none 0 0)],blk b186 40 (Event.enc a1),blk b185 52 (RDag.enc a0)]++F) (fun p197 H=>?_) (fun H=>?_)
 ·
  refine WP.seq<|rg 1 0<|as0 rfl rfl<|.fin<|WP.seq<|rg 5 8<|mv0 rfl rfl<|fb rfl trivial rfl fa52_1<|ld 2 rfl trivial rfl sc33 rfl rfl<|vg (st_nil Event.K none) fun _ _=>?_
  refine gr H fun g198 H=>ap Event.K 0 a0.fL src_sl Tryz.underlying33 (.inr ⟨_,Tryz.underlying33⟩) inf40 g198 nofun fun v199=>?_
  refine as0 rfl rfl<|.fin<|WP.seq<|dg Tryz.checked.mixed 9 160<|fb rfl trivial rfl fa52_0<|ld 3 rfl trivial rfl sc9 rfl rfl<|mv0 rfl rfl<|lds 2 rfl trivial rfl sg40 rfl rfl<|Dv.lit Event.K ([a1]:List Event) (css:=[Event.enc a1]) rfl trivial Tryz.underlying33 Tryz.underlying40 c40 z40 rfl (by decide) (by decide) rfl ⟨(cells_agg (Event.K.one _)),trivial⟩ rfl rfl rfl<|gr H fun g200 H=>Dv.appx (Kd:=Event.K) (jj:=0) (ys:=([a1]:List Event)) (fun v201:OV=>[own Event.K v201.1 ((([]:List Event)++a0.fL)++([a1]:List Event)),blk b187 52 [vS (⟨#[]⟩:ByteArray),eq (.slice none 0 0)],blk b186 40 (Event.enc a1),blk b185 52 (RDag.enc a0)]++F) rfl trivial rfl rfl rfl src_sl Tryz.underlying33 (.inr ⟨_,Tryz.underlying33⟩) inf40 rfl (by decide) g200 rfl (fun _=>(pend_by (by kernel_rfl) (pend_by (by kernel_rfl) (pend_by (by kernel_rfl) (pend_in (fun _=>(mem_at 3 rfl)) (pend_in (fun _=>trivial) pend_nil)))))) (fun v201=>?_)
  refine Dv.bld (qs:=[vS a0.fRoom,eq v201.1]) (css:=[[vS a0.fRoom],[eq v201.1]]) rfl trivial Tryz.underlying52 pl52 z52 rfl ⟨(cells_one (one_eq rfl)),⟨(cells_one one_ov),trivial⟩⟩ rfl rfl<|sx 1 rfl trivial rfl rfl cA sz52 rfl rfl rfl pB ?_
  refine as0 rfl rfl<|.fin<|WP.gh (gh_frz (E':=[(4,eq (.pointer (some ⟨b187,0,none⟩))),(5,vI 0)]) (l':=[blk b187 52 [vS a0.fRoom,sl Event.K ((([]:List Event)++a0.fL)++([a1]:List Event))],blk b186 40 (Event.enc a1),blk b185 52 (RDag.enc a0)]++F) 0 rfl (cve_cons rfl cv_id (cve_cons rfl cv_id cve_nil)) (all2_app (.cons (cva_blk (.cons cv_id (.cons cv_eq .nil))) (.cons cva_id (.cons cva_id .nil))) fun _=>cva_id)) (fun _ _=>?_)
  cases H.out; exact r3 i2 rfl (.cons (res_cells rfl Tryz.underlying52 rfl c52 (mem_at 0 rfl) rfl) (.cons (res_tmp rfl) .nil))
 refine WP.seq<|rg 3 0<|fb rfl trivial rfl fa40_3<|ld 1 rfl trivial rfl sc9 rfl rfl<|bn0 rfl rfl rfl run_sne<|.fin<|cd H rfl (fun _ H=>?_) (fun _ H=>?_)
 rotate_left
 ·
  refine WP.skip ?_
  have H:=H.out
  exact jn () H
 refine WP.seq<|rg 5 0<|lds 2 rfl trivial rfl sg52 rfl rfl<|fb rfl trivial rfl fa40_3<|ld 1 rfl trivial rfl sc9 rfl rfl<|el H fun t203 h204 H=>cl rfl cal53 rfl (r07_At.c h204)<|as0 rfl rfl<|.fin<|WP.seq<|WP.seq<|rg 2 0<|mv0 rfl rfl<|bn0 rfl rfl rfl run_lt<|.fin<|cd H rfl (fun _ H=>?_) (fun _ H=>?_)
 ·
  refine WP.seq<|rg 3 2<|lds 2 rfl trivial rfl sg52 rfl rfl<|sx 0 rfl trivial rfl rfl cA sz52 rfl rfl rfl nofun ?_
  refine as0 rfl rfl<|.fin ?_
  have H:=H.outr
  cases H.out; exact r3 i2 rfl (.cons (res_cells rfl Tryz.underlying52 rfl c52 (mem_at 0 rfl) rfl) (.cons (res_tmp rfl) .nil))
 refine WP.skip<|WP.seq<|rg 16 0<|fb rfl trivial rfl fa52_1<|ld 2 rfl trivial rfl sc33 rfl rfl<|mv0 rfl rfl<|gr H fun g206 H=>Dv.ixr rfl trivial rfl rfl Tryz.underlying33 Tryz.underlying40 c40 g206.1 g206.2<|fr rfl trivial rfl fa40_3 rfl<|ldR rfl trivial rfl sc9 rfl<|bn0 rfl rfl rfl run_sne<|mv0 rfl rfl ?_
 cases c207:!decide (((Event.K.at a0.fL t203).fThread) = (⟨#[]⟩:ByteArray))
 rotate_left
 ·
  have H:=H.ct c207
  refine sk rfl rfl<|sk rfl rfl<|sk rfl rfl<|sk rfl rfl<|sk rfl rfl<|sk rfl rfl<|sk rfl rfl<|pt0 rfl rfl rfl<|.fin<|WP.cond rfl (fun _=>?_) nofun
  refine WP.seq<|rg 3 2<|lds 2 rfl trivial rfl sg52 rfl rfl<|sx 0 rfl trivial rfl rfl cA sz52 rfl rfl rfl nofun ?_
  refine as0 rfl rfl<|.fin ?_
  have H:=H.outr
  cases H.out; exact r3 i2 rfl (.cons (res_cells rfl Tryz.underlying52 rfl c52 (mem_at 0 rfl) rfl) (.cons (res_tmp rfl) .nil))
 have H:=H.cf c207
 refine fb rfl (gg rfl) rfl fa52_1<|ld 2 rfl (gg rfl) rfl sc33 rfl rfl<|mvg rfl rfl rfl<|gr H fun g209 H=>Dv.ixr rfl (gg rfl) rfl rfl Tryz.underlying33 Tryz.underlying40 c40 g209.1 g209.2<|fr rfl (gg rfl) rfl fa40_5 rfl<|ldR rfl (gg rfl) rfl sc3 rfl<|bng rfl rfl rfl rfl run_ne<|pf0 rfl rfl rfl<|.fin<|cd H rfl (fun _ H=>?_) (fun _ H=>?_)
 rotate_left
 ·
  refine WP.skip ?_
  have H:=H.out
  exact jn () H
 refine WP.seq<|rg 3 2<|lds 2 rfl trivial rfl sg52 rfl rfl<|sx 0 rfl trivial rfl rfl cA sz52 rfl rfl rfl nofun ?_
 refine as0 rfl rfl<|.fin ?_
 have H:=H.outr
 cases H.out; exact r3 i2 rfl (.cons (res_cells rfl Tryz.underlying52 rfl c52 (mem_at 0 rfl) rfl) (.cons (res_tmp rfl) .nil))
theorem r07_Made.c {k:Nat} {a0:ByteArray} {a1:List GMade} {r:RDag} (h:r07_Made.f k a0 a1 = some r):Pt Tryz.prog 22 [vS a0,sl GMade.K a1] (agg (RDag.enc r)):=by
 unfold r07_Made.f at h
 refine pb Tryz.func22 Tryz.ntmps22 h fun R0 F H=>?_
 refine WP.seq<|rg 1 1<|al rfl trivial zc52 nofun fun b219=>.fin<|WP.seq<|rg 4 12<|mv0 rfl rfl<|Dv.bld (qs:=[vS a0,eq (.slice none 0 0)]) (css:=[[vS a0]]) rfl trivial Tryz.underlying52 pl52 z52 rfl ⟨(cells_one (one_eq rfl)),trivial⟩ rfl rfl<|al rfl trivial zc52 nofun fun b220=>sx 0 rfl trivial rfl rfl cA sz52 rfl rfl rfl nofun ?_
 refine .fin<|WP.seqn H id (fun p221:Int×Bool×ByteArray×(List Event)=>[(0,vS a0),(1,sl GMade.K a1),(4,eq (.pointer (some ⟨b219,0,none⟩))),(5,eq (.pointer (some ⟨b220,0,none⟩))),(6,vI p221.1),(23,vB p221.2.1)]) (fun p221:Int×Bool×ByteArray×(List Event)=>[blk b220 52 [vS p221.2.2.1,sl Event.K p221.2.2.2],blk b219 52 [vS (⟨#[]⟩:ByteArray),eq (.slice none 0 0)]]++F) (fun p221 H=>?_) (fun H=>?_)
 ·
  refine WP.seq<|rg 2 2<|lds 0 rfl trivial rfl sg52 rfl rfl<|sx 1 rfl trivial rfl rfl cA sz52 rfl rfl rfl nofun ?_
  refine .fin ?_
  cases H.out; exact r2 i2 rfl (.cons (res_cells rfl Tryz.underlying52 rfl c52 (mem_at 1 rfl) rfl) .nil)
 refine WP.seq<|rg 1 0<|as0 rfl rfl<|.fin<|WP.block<|WP.gh (gh_wk (E':=[(0,vS a0),(1,sl GMade.K a1),(4,eq (.pointer (some ⟨b219,0,none⟩))),(5,eq (.pointer (some ⟨b220,0,none⟩))),(6,vI 0)]) (l':=[blk b220 52 [vS a0,sl Event.K ([]:List Event)],blk b219 52 [vS (⟨#[]⟩:ByteArray),eq (.slice none 0 0)]]++F) (wke_cons rfl wk_id (wke_cons rfl wk_id (wke_cons rfl wk_id (wke_cons rfl wk_id (wke_cons rfl wk_id wke_nil))))) (all2_app (.cons (wka_blk (.cons wk_id (.cons wk_nil .nil))) (.cons wka_id .nil)) fun _=>wka_id)) (fun _ _=>?_)
 refine wg (sg 2 [0,1] 0) fun _ _=>?_
 refine lp (fun j_ (p310:Int×ByteArray×(List Event))=>r07_Made.l0 k a0 a1 j_ p310.1 p310.2.1 p310.2.2) (0,a0,([]:List Event)) H (fun p310=>[(0,vS a0),(1,sl GMade.K a1),(4,eq (.pointer (some ⟨b219,0,none⟩))),(5,eq (.pointer (some ⟨b220,0,none⟩))),(6,vI p310.1)]) (fun p310=>[blk b220 52 [vS p310.2.1,sl Event.K p310.2.2],blk b219 52 [vS (⟨#[]⟩:ByteArray),eq (.slice none 0 0)]]++F) ?_
 rintro j_ ⟨x222,x223,x224⟩ H
 rcases j_ with _ | j309
 ·
  exact (Gets.no H).elim
 replace H:Gets (r07_Made.l0 k a0 a1 (j309 + 1) x222 x223 x224) _:=H
 rw [r07_Made.l0] at H
 refine WP.seq<|WP.seq<|rg 8 0<|mv0 rfl rfl<|mv0 rfl rfl<|Dv.lenl rfl trivial rfl Tryz.underlying22<|bn0 rfl rfl rfl run_lt<|mv0 rfl rfl ?_
 cases c225:decide (x222 < (a1.length:Int))
 ·
  have H:=H.cf c225
  refine sk rfl rfl<|sk rfl rfl<|pf0 rfl rfl rfl<|.fin<|WP.cond rfl nofun (fun _=>?_)
  refine WP.exit ?_
  have H:=H.out
  exact jn (x222,false,x223,x224) H
 have H:=H.ct c225
 refine mvg rfl rfl rfl<|bng rfl rfl rfl rfl run_lt<|pt0 rfl rfl rfl<|.fin<|cd H rfl (fun _ H=>?_) (fun _ H=>?_)
 rotate_left
 ·
  refine WP.exit ?_
  have H:=H.out
  exact jn (x222,decide (x222 < 9),x223,x224) H
 refine WP.skip<|WP.seqn H (fun q307:(Int×Int×Bool×Bool×Bool×ByteArray×(List Event)×(List Bool))×OV=>q307.1) (fun q307:(Int×Int×Bool×Bool×Bool×ByteArray×(List Event)×(List Bool))×OV=>[(0,vS a0),(1,sl GMade.K a1),(4,eq (.pointer (some ⟨b219,0,none⟩))),(5,eq (.pointer (some ⟨b220,0,none⟩))),(6,vI x222),(8,eq q307.2.1),(9,vI q307.1.1),(10,vI q307.1.2.1),(23,vB (decide (x222 < 9))),(58,vB q307.1.2.2.1),(75,vB q307.1.2.2.2.1),(95,vB q307.1.2.2.2.2.1)]) (fun q307:(Int×Int×Bool×Bool×Bool×ByteArray×(List Event)×(List Bool))×OV=>[blk b220 52 [vS q307.1.2.2.2.2.2.1,sl Event.K q307.1.2.2.2.2.2.2.1],blk b219 52 [vS (⟨#[]⟩:ByteArray),eq (.slice none 0 0)],own boolK q307.2.1 q307.1.2.2.2.2.2.2.2]++F) (fun q307 H=>?_) (fun H=>?_)
 ·
  obtain ⟨p227,v228⟩:=q307
  refine rg 3 0<|mv0 rfl rfl<|bn0 rfl rfl rfl run_add<|as0 rfl rfl<|.fin<|ng (sg 3 [2,0,1] 1) fun _ _=>?_
  exact bk j309 (w64 (x222 + 1),p227.2.2.2.2.2.1,p227.2.2.2.2.2.2.1) H
 refine WP.block<|WP.seq<|dg Tryz.checked.mixed 18 196608<|mv0 rfl rfl<|el H fun t229 h230 H=>cl rfl cal34 rfl (r01_EventOf.c h230)<|mv0 rfl rfl<|mv0 rfl rfl<|mv0 rfl rfl<|gr H fun g231 H=>Dv.ixr rfl trivial rfl rfl Tryz.underlying22 Tryz.underlying74 c74 g231.1 g231.2<|fr rfl trivial rfl fa74_0 rfl<|ldR rfl trivial rfl sc3 rfl<|el H fun t232 h233 H=>cl rfl cal35 rfl (r01_UserOf.c h233)<|mv0 rfl rfl<|mv0 rfl rfl<|gr H fun g234 H=>Dv.ixr rfl trivial rfl rfl Tryz.underlying22 Tryz.underlying74 c74 g234.1 g234.2<|fr rfl trivial rfl fa74_1 rfl<|ldR rfl trivial rfl sc3 rfl<|el H fun t235 h236 H=>cl rfl cal36 rfl (r01_Around.c h236)<|Dv.bld (qs:=[vS t229,vS a0,eq (.slice none 0 0),vS (⟨#[]⟩:ByteArray),vS t232,vI t235]) (css:=[[vS t229],[vS a0],[vS t232],[vI t235]]) rfl trivial Tryz.underlying40 pl40 z40 rfl ⟨(cells_one (one_eq rfl)),⟨(cells_one (one_eq rfl)),⟨(cells_one (one_eq rfl)),⟨(cells_one (one_eq rfl)),trivial⟩⟩⟩⟩ rfl rfl<|al rfl trivial zc40 (fun _=>(pend_in (fun _=>trivial) (pend_in (fun _=>trivial) (pend_in (fun _=>trivial) (pend_in (fun _=>trivial) (pend_in (fun _=>trivial) (pend_in (fun _=>trivial) (pend_in (fun _=>trivial) (pend_in (fun _=>trivial) (pend_in (fun _=>trivial) (pend_in (fun _=>trivial) (pend_in (fun _=>trivial) (pend_in (fun _=>trivial) (pend_in (fun _=>trivial) (pend_in (fun _=>trivial) (pend_in (fun _=>trivial) (pend_in (fun _=>trivial) pend_nil))))))))))))))))) fun b237=>sx 0 rfl trivial rfl rfl cA sz40 rfl rfl rfl pB ?_
 refine .fin<|WP.seq<|rg 2 1<|gr H fun g238 H=>?_
 obtain ⟨ti239,ti239a,ti239b,ti239c,ti239d⟩:=inf4
 refine Dv.mks (Kd:=boolK) (false:Bool) rfl trivial rfl rfl Tryz.underlying76 ti239a ti239b ti239c ti239d rfl (by decide) rfl g238 nofun (fun v240=>?_)
 refine as0 rfl rfl<|.fin<|WP.seqn H id (fun p241:Int×Bool×(List Bool)=>[(0,vS a0),(1,sl GMade.K a1),(4,eq (.pointer (some ⟨b219,0,none⟩))),(5,eq (.pointer (some ⟨b220,0,none⟩))),(6,vI x222),(7,eq (.pointer (some ⟨b237,0,none⟩))),(8,eq v240.1),(9,vI p241.1),(23,vB (decide (x222 < 9))),(58,vB p241.2.1)]) (fun p241:Int×Bool×(List Bool)=>[blk b237 40 [vS t229,vS a0,eq (.slice none 0 0),vS (⟨#[]⟩:ByteArray),vS t232,vI t235],blk b220 52 [vS x223,sl Event.K x224],blk b219 52 [vS (⟨#[]⟩:ByteArray),eq (.slice none 0 0)],own boolK v240.1 p241.2.2]++F) (fun p241 H=>?_) (fun H=>?_)
 rotate_left
 ·
  refine WP.seq<|rg 1 0<|as0 rfl rfl<|.fin<|WP.block<|wg (sg 4 [1,2,3,0] 0) fun _ _=>?_
  refine lp (fun j_ (p306:Int×(List Bool))=>r07_Made.l2 k a1 x222 j_ p306.1 p306.2) (0,List.replicate (9:Int).toNat (false:Bool)) H (fun p306=>[(0,vS a0),(1,sl GMade.K a1),(4,eq (.pointer (some ⟨b219,0,none⟩))),(5,eq (.pointer (some ⟨b220,0,none⟩))),(6,vI x222),(7,eq (.pointer (some ⟨b237,0,none⟩))),(8,eq v240.1),(9,vI p306.1),(23,vB (decide (x222 < 9)))]) (fun p306=>[blk b237 40 [vS t229,vS a0,eq (.slice none 0 0),vS (⟨#[]⟩:ByteArray),vS t232,vI t235],blk b220 52 [vS x223,sl Event.K x224],blk b219 52 [vS (⟨#[]⟩:ByteArray),eq (.slice none 0 0)],own boolK v240.1 p306.2]++F) ?_
  rintro j_ ⟨x291,x292⟩ H
  rcases j_ with _ | j305
  ·
   exact (Gets.no H).elim
  replace H:Gets (r07_Made.l2 k a1 x222 (j305 + 1) x291 x292) _:=H
  rw [r07_Made.l2] at H
  refine WP.seq<|WP.seq<|rg 16 0<|mv0 rfl rfl<|mv0 rfl rfl<|mv0 rfl rfl<|gr H fun g293 H=>Dv.ixr rfl trivial rfl rfl Tryz.underlying22 Tryz.underlying74 c74 g293.1 g293.2<|fr rfl trivial rfl fa74_2 rfl<|ldR rfl trivial rfl sc72 rfl<|Dv.lenl rfl trivial rfl Tryz.underlying72<|bn0 rfl rfl rfl run_lt<|mv0 rfl rfl ?_
  cases c294:decide (x291 < (((GMade.K.at a1 x222).fParents).length:Int))
  ·
   have H:=H.cf c294
   refine sk rfl rfl<|sk rfl rfl<|pf0 rfl rfl rfl<|mv0 rfl rfl<|sk rfl rfl<|sk rfl rfl<|pf0 rfl rfl rfl<|.fin<|WP.cond rfl nofun (fun _=>?_)
   refine WP.exit ?_
   have H:=H.out
   exact jn (x291,false,x292) H
  have H:=H.ct c294
  refine mvg rfl rfl rfl<|bng rfl rfl rfl rfl run_lt<|pt0 rfl rfl rfl<|mv0 rfl rfl ?_
  cases c295:decide (x291 < 3)
  ·
   have H:=H.cf c295
   refine sk rfl rfl<|sk rfl rfl<|pf0 rfl rfl rfl<|.fin<|WP.cond rfl nofun (fun _=>?_)
   refine WP.exit ?_
   have H:=H.out
   exact jn (x291,false,x292) H
  have H:=H.ct c295
  refine mvg rfl rfl rfl<|bng rfl rfl rfl rfl run_gt<|pt0 rfl rfl rfl<|.fin<|cd H rfl (fun _ H=>?_) (fun _ H=>?_)
  rotate_left
  ·
   refine WP.exit ?_
   have H:=H.out
   exact jn (x291,decide (0 < x222),x292) H
  refine WP.skip<|WP.seq<|WP.block<|rg 13 4096<|mv0 rfl rfl<|mv0 rfl rfl<|mv0 rfl rfl<|gr H fun g297 H=>Dv.ixr rfl trivial rfl rfl Tryz.underlying22 Tryz.underlying74 c74 g297.1 g297.2<|fr rfl trivial rfl fa74_2 rfl<|ldR rfl trivial rfl sc72 rfl<|mv0 rfl rfl<|gr H fun g298 H=>Dv.ixr rfl trivial rfl rfl Tryz.underlying72 Tryz.underlying3 c3 g298.1 g298.2<|ldR rfl trivial rfl sc3 rfl<|mv0 rfl rfl<|el H fun t299 h300 H=>cl rfl cal36 rfl (r01_Around.c h300)<|gr H fun g301 H=>?_
  have h302:t299.toNat < x292.length:=idx_lt g301
  exact Dv.ixw rfl trivial rfl (mem_at 3 rfl) rfl Tryz.underlying76 Tryz.underlying4 c4 g301.1 g301.2<|Dv.stw (j:=t299.toNat) (f:=0) (jj:=3) true rfl trivial rfl rfl (cells_one (one_eq rfl)) Tryz.underlying4 c4 rfl rfl h302 (Nat.le_of_ble_eq_true rfl) rfl nofun<|.fin<|rg 3 0<|mv0 rfl rfl<|bn0 rfl rfl rfl run_add<|as0 rfl rfl<|.fin<|bk j305 (w64 (x291 + 1),x292.set t299.toNat true) H
 refine WP.seqn H (fun q290:(Int×Bool×(List ByteArray))×OV=>q290.1) (fun q290:(Int×Bool×(List ByteArray))×OV=>[(0,vS a0),(1,sl GMade.K a1),(4,eq (.pointer (some ⟨b219,0,none⟩))),(5,eq (.pointer (some ⟨b220,0,none⟩))),(6,vI x222),(7,eq (.pointer (some ⟨b237,0,none⟩))),(8,eq v240.1),(9,vI p241.1),(10,vI q290.1.1),(23,vB (decide (x222 < 9))),(58,vB p241.2.1),(75,vB q290.1.2.1)]) (fun q290:(Int×Bool×(List ByteArray))×OV=>[blk b237 40 [vS t229,vS a0,eq q290.2.1,vS (⟨#[]⟩:ByteArray),vS t232,vI t235],blk b220 52 [vS x223,sl Event.K x224],blk b219 52 [vS (⟨#[]⟩:ByteArray),eq (.slice none 0 0)],own boolK v240.1 p241.2.2,own strK q290.2.1 q290.1.2.2]++F) (fun q290 H=>?_) (fun H=>?_)
 rotate_left
 ·
  refine WP.seq<|rg 1 0<|as0 rfl rfl<|.fin<|WP.block<|wg (st_nil strK none) fun _ _=>?_
  refine wg (sg 5 [1,2,3,4,0] 0) fun _ _=>?_
  refine lp (fun j_ (p289:Int×(List ByteArray)×OV)=>r07_Made.l1 k x222 p241 j_ p289.1 p289.2.1) (0,([]:List ByteArray),nilV) H (fun p289=>[(0,vS a0),(1,sl GMade.K a1),(4,eq (.pointer (some ⟨b219,0,none⟩))),(5,eq (.pointer (some ⟨b220,0,none⟩))),(6,vI x222),(7,eq (.pointer (some ⟨b237,0,none⟩))),(8,eq v240.1),(9,vI p241.1),(10,vI p289.1),(23,vB (decide (x222 < 9))),(58,vB p241.2.1)]) (fun p289=>[blk b237 40 [vS t229,vS a0,eq p289.2.2.1,vS (⟨#[]⟩:ByteArray),vS t232,vI t235],blk b220 52 [vS x223,sl Event.K x224],blk b219 52 [vS (⟨#[]⟩:ByteArray),eq (.slice none 0 0)],own boolK v240.1 p241.2.2,own strK p289.2.2.1 p289.2.1]++F) ?_
  rintro j_ ⟨x277,x278,v279⟩ H
  rcases j_ with _ | j288
  ·
   exact (Gets.no H).elim
  replace H:Gets (r07_Made.l1 k x222 p241 (j288 + 1) x277 x278) _:=H
  rw [r07_Made.l1] at H
  refine WP.seq<|WP.seq<|rg 3 0<|mv0 rfl rfl<|mv0 rfl rfl<|bn0 rfl rfl rfl run_lt<|.fin<|cd H rfl (fun _ H=>?_) (fun _ H=>?_)
  rotate_left
  ·
   refine WP.exit ?_
   have H:=H.out
   exact jn ((x277,decide (x277 < x222),x278),v279) H
  refine WP.skip<|WP.seq<|WP.block<|WP.seq<|rg 4 0<|mv0 rfl rfl<|mv0 rfl rfl<|gr H fun g281 H=>?_
  have h282:x277.toNat < p241.2.2.length:=idx_lt g281
  refine Dv.ixw rfl trivial rfl (mem_at 3 rfl) rfl Tryz.underlying76 Tryz.underlying4 c4 g281.1 g281.2<|Dv.ldw (j:=x277.toNat) (f:=0) (p:=vB (p241.2.2.getD x277.toNat default)) rfl trivial rfl (mem_at 3 rfl) h282 Tryz.underlying4 rfl rfl<|.fin<|cd H rfl (fun _ H=>?_) (fun _ H=>?_)
  rotate_left
  ·
   exact WP.skip<|rg 3 0<|mv0 rfl rfl<|bn0 rfl rfl rfl run_add<|as0 rfl rfl<|.fin<|bk j288 (w64 (x277 + 1),x278,v279) H
  refine dg Tryz.checked.mixed 8 160<|fb rfl trivial rfl fa40_2<|ld 0 rfl trivial rfl sc38 rfl rfl<|mv0 rfl rfl<|el H fun t284 h285 H=>cl rfl cal34 rfl (r01_EventOf.c h285)<|Dv.lit strK ([t284]:List ByteArray) (css:=[[vS t284]]) rfl trivial Tryz.underlying38 Tryz.underlying9 c9 z9 rfl (by decide) (by decide) rfl ⟨(cells_one (one_eq rfl)),trivial⟩ rfl rfl rfl<|gr H fun g286 H=>ap strK 4 ([t284]:List ByteArray) src_sl Tryz.underlying38 (.inr ⟨_,Tryz.underlying38⟩) inf9 g286 pB fun v287=>?_
  refine fb rfl trivial rfl fa40_2<|sx 0 rfl trivial rfl rfl (cells_one one_ov) sz38 rfl rfl rfl pB ?_
  exact .fin<|rg 3 0<|mv0 rfl rfl<|bn0 rfl rfl rfl run_add<|as0 rfl rfl<|.fin<|bk j288 (w64 (x277 + 1),x278++([t284]:List ByteArray),v287) H
 obtain ⟨p242,v243⟩:=q290
 refine WP.seq<|WP.seq<|rg 7 0<|fb rfl trivial rfl fa40_5<|ld 0 rfl trivial rfl sc3 rfl rfl<|bn0 rfl rfl rfl run_eq<|mv0 rfl rfl ?_
 cases c244:(t235 == 0)
 ·
  have H:=H.cf c244
  refine sk rfl rfl<|sk rfl rfl<|pf0 rfl rfl rfl<|.fin<|WP.cond rfl nofun (fun _=>?_)
  refine WP.skip<|WP.seq<|rg 9 192<|lds 1 rfl trivial rfl sg52 rfl rfl<|lds 0 rfl trivial rfl sg40 rfl rfl<|Dv.gh (gh_frz (E':=[(0,vS a0),(1,sl GMade.K a1),(4,eq (.pointer (some ⟨b219,0,none⟩))),(5,eq (.pointer (some ⟨b220,0,none⟩))),(6,vI x222),(7,eq (.pointer (some ⟨b237,0,none⟩))),(8,eq v240.1),(9,vI p241.1),(10,vI p242.1),(23,vB (decide (x222 < 9))),(58,vB p241.2.1),(75,vB p242.2.1),(95,vB false),(129,agg [vS x223,sl Event.K x224]),(130,agg [vS t229,vS a0,sl strK p242.2.2,vS (⟨#[]⟩:ByteArray),vS t232,vI t235])]) (l':=[blk b237 40 [vS t229,vS a0,sl strK p242.2.2,vS (⟨#[]⟩:ByteArray),vS t232,vI t235],blk b220 52 [vS x223,sl Event.K x224],blk b219 52 [vS (⟨#[]⟩:ByteArray),eq (.slice none 0 0)],own boolK v240.1 p241.2.2]++F) 4 rfl (cve_cons rfl cv_id (cve_cons rfl cv_id (cve_cons rfl cv_id (cve_cons rfl cv_id (cve_cons rfl cv_id (cve_cons rfl cv_id (cve_cons rfl cv_id (cve_cons rfl cv_id (cve_cons rfl cv_id (cve_cons rfl cv_id (cve_cons rfl cv_id (cve_cons rfl cv_id (cve_cons rfl cv_id (cve_cons rfl cv_id (cve_cons rfl (cv_agg (.cons cv_id (.cons cv_id (.cons cv_eq (.cons cv_id (.cons cv_id (.cons cv_id .nil))))))) cve_nil))))))))))))))) (all2_app (.cons (cva_blk (.cons cv_id (.cons cv_id (.cons cv_eq (.cons cv_id (.cons cv_id (.cons cv_id .nil))))))) (.cons cva_id (.cons cva_id (.cons cva_id .nil)))) fun _=>cva_id)) (fun _ _=>?_)
  refine el H fun t274 h275 H=>cl rfl cal37 rfl (r07_Add.c h275)<|mv0 rfl rfl<|ex0 rfl trivial rfl rfl<|ex0 rfl trivial rfl rfl<|al rfl trivial zc52 nofun fun b276=>sx 0 rfl trivial rfl rfl cA sz52 rfl rfl rfl nofun ?_
  refine as0 rfl rfl<|.fin<|rg 2 2<|lds 0 rfl trivial rfl sg52 rfl rfl<|sx 2 rfl trivial rfl rfl cA sz52 rfl rfl rfl nofun ?_
  refine .fin ?_
  have H:=H.out
  refine ng (sg 5 [0,1,2,3,4] 2) fun _ _=>?_
  exact jn ((p241.1,p242.1,p241.2.1,p242.2.1,false,t274.1.fRoom,t274.1.fL,p241.2.2),v240) H
 have H:=H.ct c244
 refine mvg rfl rfl rfl<|bng rfl rfl rfl rfl run_gt<|pt0 rfl rfl rfl<|.fin<|cd H rfl (fun _ H=>?_) (fun _ H=>?_)
 rotate_left
 ·
  refine WP.skip<|WP.seq<|rg 9 192<|lds 1 rfl trivial rfl sg52 rfl rfl<|lds 0 rfl trivial rfl sg40 rfl rfl<|Dv.gh (gh_frz (E':=[(0,vS a0),(1,sl GMade.K a1),(4,eq (.pointer (some ⟨b219,0,none⟩))),(5,eq (.pointer (some ⟨b220,0,none⟩))),(6,vI x222),(7,eq (.pointer (some ⟨b237,0,none⟩))),(8,eq v240.1),(9,vI p241.1),(10,vI p242.1),(23,vB (decide (x222 < 9))),(58,vB p241.2.1),(75,vB p242.2.1),(95,vB (decide (0 < x222))),(129,agg [vS x223,sl Event.K x224]),(130,agg [vS t229,vS a0,sl strK p242.2.2,vS (⟨#[]⟩:ByteArray),vS t232,vI t235])]) (l':=[blk b237 40 [vS t229,vS a0,sl strK p242.2.2,vS (⟨#[]⟩:ByteArray),vS t232,vI t235],blk b220 52 [vS x223,sl Event.K x224],blk b219 52 [vS (⟨#[]⟩:ByteArray),eq (.slice none 0 0)],own boolK v240.1 p241.2.2]++F) 4 rfl (cve_cons rfl cv_id (cve_cons rfl cv_id (cve_cons rfl cv_id (cve_cons rfl cv_id (cve_cons rfl cv_id (cve_cons rfl cv_id (cve_cons rfl cv_id (cve_cons rfl cv_id (cve_cons rfl cv_id (cve_cons rfl cv_id (cve_cons rfl cv_id (cve_cons rfl cv_id (cve_cons rfl cv_id (cve_cons rfl cv_id (cve_cons rfl (cv_agg (.cons cv_id (.cons cv_id (.cons cv_eq (.cons cv_id (.cons cv_id (.cons cv_id .nil))))))) cve_nil))))))))))))))) (all2_app (.cons (cva_blk (.cons cv_id (.cons cv_id (.cons cv_eq (.cons cv_id (.cons cv_id (.cons cv_id .nil))))))) (.cons cva_id (.cons cva_id (.cons cva_id .nil)))) fun _=>cva_id)) (fun _ _=>?_)
  refine el H fun t270 h271 H=>cl rfl cal37 rfl (r07_Add.c h271)<|mv0 rfl rfl<|ex0 rfl trivial rfl rfl<|ex0 rfl trivial rfl rfl<|al rfl trivial zc52 nofun fun b272=>sx 0 rfl trivial rfl rfl cA sz52 rfl rfl rfl nofun ?_
  refine as0 rfl rfl<|.fin<|rg 2 2<|lds 0 rfl trivial rfl sg52 rfl rfl<|sx 2 rfl trivial rfl rfl cA sz52 rfl rfl rfl nofun ?_
  refine .fin ?_
  have H:=H.out
  refine ng (sg 5 [0,1,2,3,4] 2) fun _ _=>?_
  exact jn ((p241.1,p242.1,p241.2.1,p242.2.1,decide (0 < x222),t270.1.fRoom,t270.1.fL,p241.2.2),v240) H
 refine WP.seq<|rg 9 0<|mv0 rfl rfl<|mv0 rfl rfl<|gr H fun g246 H=>Dv.ixr rfl trivial rfl rfl Tryz.underlying22 Tryz.underlying74 c74 g246.1 g246.2<|fr rfl trivial rfl fa74_3 rfl<|ldR rfl trivial rfl sc3 rfl<|mv0 rfl rfl<|bn0 rfl rfl rfl run_mul<|el H fun t247 h248 H=>cl rfl cal36 rfl (r01_Around.c h248)<|as0 rfl rfl<|.fin<|WP.seq<|rg 21 0<|mv0 rfl rfl<|mv0 rfl rfl<|bn0 rfl rfl rfl run_lt<|mv0 rfl rfl ?_
 cases c249:decide (t247 < x222)
 ·
  have H:=H.cf c249
  refine sk rfl rfl<|sk rfl rfl<|sk rfl rfl<|sk rfl rfl<|sk rfl rfl<|sk rfl rfl<|sk rfl rfl<|pf0 rfl rfl rfl<|mv0 rfl rfl<|sk rfl rfl<|sk rfl rfl<|sk rfl rfl<|sk rfl rfl<|sk rfl rfl<|sk rfl rfl<|sk rfl rfl<|pf0 rfl rfl rfl<|.fin<|WP.cond rfl nofun (fun _=>?_)
  refine WP.skip<|WP.seq<|rg 9 192<|lds 1 rfl trivial rfl sg52 rfl rfl<|lds 0 rfl trivial rfl sg40 rfl rfl<|Dv.gh (gh_frz (E':=[(0,vS a0),(1,sl GMade.K a1),(4,eq (.pointer (some ⟨b219,0,none⟩))),(5,eq (.pointer (some ⟨b220,0,none⟩))),(6,vI x222),(7,eq (.pointer (some ⟨b237,0,none⟩))),(8,eq v240.1),(9,vI p241.1),(10,vI p242.1),(11,vI t247),(23,vB (decide (x222 < 9))),(58,vB p241.2.1),(75,vB p242.2.1),(95,vB (decide (0 < x222))),(124,vB false),(129,agg [vS x223,sl Event.K x224]),(130,agg [vS t229,vS a0,sl strK p242.2.2,vS (⟨#[]⟩:ByteArray),vS t232,vI t235])]) (l':=[blk b237 40 [vS t229,vS a0,sl strK p242.2.2,vS (⟨#[]⟩:ByteArray),vS t232,vI t235],blk b220 52 [vS x223,sl Event.K x224],blk b219 52 [vS (⟨#[]⟩:ByteArray),eq (.slice none 0 0)],own boolK v240.1 p241.2.2]++F) 4 rfl (cve_cons rfl cv_id (cve_cons rfl cv_id (cve_cons rfl cv_id (cve_cons rfl cv_id (cve_cons rfl cv_id (cve_cons rfl cv_id (cve_cons rfl cv_id (cve_cons rfl cv_id (cve_cons rfl cv_id (cve_cons rfl cv_id (cve_cons rfl cv_id (cve_cons rfl cv_id (cve_cons rfl cv_id (cve_cons rfl cv_id (cve_cons rfl cv_id (cve_cons rfl cv_id (cve_cons rfl (cv_agg (.cons cv_id (.cons cv_id (.cons cv_eq (.cons cv_id (.cons cv_id (.cons cv_id .nil))))))) cve_nil))))))))))))))))) (all2_app (.cons (cva_blk (.cons cv_id (.cons cv_id (.cons cv_eq (.cons cv_id (.cons cv_id (.cons cv_id .nil))))))) (.cons cva_id (.cons cva_id (.cons cva_id .nil)))) fun _=>cva_id)) (fun _ _=>?_)
  refine el H fun t267 h268 H=>cl rfl cal37 rfl (r07_Add.c h268)<|mv0 rfl rfl<|ex0 rfl trivial rfl rfl<|ex0 rfl trivial rfl rfl<|al rfl trivial zc52 nofun fun b269=>sx 0 rfl trivial rfl rfl cA sz52 rfl rfl rfl nofun ?_
  refine as0 rfl rfl<|.fin<|rg 2 2<|lds 0 rfl trivial rfl sg52 rfl rfl<|sx 2 rfl trivial rfl rfl cA sz52 rfl rfl rfl nofun ?_
  refine .fin ?_
  have H:=H.out
  refine ng (sg 5 [0,1,2,3,4] 2) fun _ _=>?_
  exact jn ((p241.1,p242.1,p241.2.1,p242.2.1,decide (0 < x222),t267.1.fRoom,t267.1.fL,p241.2.2),v240) H
 have H:=H.ct c249
 refine fb rfl (gg rfl) rfl fa52_1<|ld 1 rfl (gg rfl) rfl sc33 rfl rfl<|mvg rfl rfl rfl<|gr H fun g250 H=>Dv.ixr rfl (gg rfl) rfl rfl Tryz.underlying33 Tryz.underlying40 c40 g250.1 g250.2<|fr rfl (gg rfl) rfl fa40_5 rfl<|ldR rfl (gg rfl) rfl sc3 rfl<|bng rfl rfl rfl rfl run_eq<|pt0 rfl rfl rfl<|mv0 rfl rfl ?_
 cases c251:(((Event.K.at x224 t247).fDoes) == 0)
 ·
  have H:=H.cf c251
  refine sk rfl rfl<|sk rfl rfl<|sk rfl rfl<|sk rfl rfl<|sk rfl rfl<|sk rfl rfl<|sk rfl rfl<|pf0 rfl rfl rfl<|.fin<|WP.cond rfl nofun (fun _=>?_)
  refine WP.skip<|WP.seq<|rg 9 192<|lds 1 rfl trivial rfl sg52 rfl rfl<|lds 0 rfl trivial rfl sg40 rfl rfl<|Dv.gh (gh_frz (E':=[(0,vS a0),(1,sl GMade.K a1),(4,eq (.pointer (some ⟨b219,0,none⟩))),(5,eq (.pointer (some ⟨b220,0,none⟩))),(6,vI x222),(7,eq (.pointer (some ⟨b237,0,none⟩))),(8,eq v240.1),(9,vI p241.1),(10,vI p242.1),(11,vI t247),(23,vB (decide (x222 < 9))),(58,vB p241.2.1),(75,vB p242.2.1),(95,vB (decide (0 < x222))),(124,vB false),(129,agg [vS x223,sl Event.K x224]),(130,agg [vS t229,vS a0,sl strK p242.2.2,vS (⟨#[]⟩:ByteArray),vS t232,vI t235])]) (l':=[blk b237 40 [vS t229,vS a0,sl strK p242.2.2,vS (⟨#[]⟩:ByteArray),vS t232,vI t235],blk b220 52 [vS x223,sl Event.K x224],blk b219 52 [vS (⟨#[]⟩:ByteArray),eq (.slice none 0 0)],own boolK v240.1 p241.2.2]++F) 4 rfl (cve_cons rfl cv_id (cve_cons rfl cv_id (cve_cons rfl cv_id (cve_cons rfl cv_id (cve_cons rfl cv_id (cve_cons rfl cv_id (cve_cons rfl cv_id (cve_cons rfl cv_id (cve_cons rfl cv_id (cve_cons rfl cv_id (cve_cons rfl cv_id (cve_cons rfl cv_id (cve_cons rfl cv_id (cve_cons rfl cv_id (cve_cons rfl cv_id (cve_cons rfl cv_id (cve_cons rfl (cv_agg (.cons cv_id (.cons cv_id (.cons cv_eq (.cons cv_id (.cons cv_id (.cons cv_id .nil))))))) cve_nil))))))))))))))))) (all2_app (.cons (cva_blk (.cons cv_id (.cons cv_id (.cons cv_eq (.cons cv_id (.cons cv_id (.cons cv_id .nil))))))) (.cons cva_id (.cons cva_id (.cons cva_id .nil)))) fun _=>cva_id)) (fun _ _=>?_)
  refine el H fun t263 h264 H=>cl rfl cal37 rfl (r07_Add.c h264)<|mv0 rfl rfl<|ex0 rfl trivial rfl rfl<|ex0 rfl trivial rfl rfl<|al rfl trivial zc52 nofun fun b265=>sx 0 rfl trivial rfl rfl cA sz52 rfl rfl rfl nofun ?_
  refine as0 rfl rfl<|.fin<|rg 2 2<|lds 0 rfl trivial rfl sg52 rfl rfl<|sx 2 rfl trivial rfl rfl cA sz52 rfl rfl rfl nofun ?_
  refine .fin ?_
  have H:=H.out
  refine ng (sg 5 [0,1,2,3,4] 2) fun _ _=>?_
  exact jn ((p241.1,p242.1,p241.2.1,p242.2.1,decide (0 < x222),t263.1.fRoom,t263.1.fL,p241.2.2),v240) H
 have H:=H.ct c251
 refine fb rfl (gg rfl) rfl fa52_1<|ld 1 rfl (gg rfl) rfl sc33 rfl rfl<|mvg rfl rfl rfl<|gr H fun g252 H=>Dv.ixr rfl (gg rfl) rfl rfl Tryz.underlying33 Tryz.underlying40 c40 g252.1 g252.2<|fr rfl (gg rfl) rfl fa40_3 rfl<|ldR rfl (gg rfl) rfl sc9 rfl<|bng rfl rfl rfl rfl run_seq<|pt0 rfl rfl rfl<|.fin<|cd H rfl (fun _ H=>?_) (fun _ H=>?_)
 rotate_left
 ·
  refine WP.skip<|WP.seq<|rg 9 192<|lds 1 rfl trivial rfl sg52 rfl rfl<|lds 0 rfl trivial rfl sg40 rfl rfl<|Dv.gh (gh_frz (E':=[(0,vS a0),(1,sl GMade.K a1),(4,eq (.pointer (some ⟨b219,0,none⟩))),(5,eq (.pointer (some ⟨b220,0,none⟩))),(6,vI x222),(7,eq (.pointer (some ⟨b237,0,none⟩))),(8,eq v240.1),(9,vI p241.1),(10,vI p242.1),(11,vI t247),(23,vB (decide (x222 < 9))),(58,vB p241.2.1),(75,vB p242.2.1),(95,vB (decide (0 < x222))),(124,vB (decide (((Event.K.at x224 t247).fThread) = (⟨#[]⟩:ByteArray)))),(129,agg [vS x223,sl Event.K x224]),(130,agg [vS t229,vS a0,sl strK p242.2.2,vS (⟨#[]⟩:ByteArray),vS t232,vI t235])]) (l':=[blk b237 40 [vS t229,vS a0,sl strK p242.2.2,vS (⟨#[]⟩:ByteArray),vS t232,vI t235],blk b220 52 [vS x223,sl Event.K x224],blk b219 52 [vS (⟨#[]⟩:ByteArray),eq (.slice none 0 0)],own boolK v240.1 p241.2.2]++F) 4 rfl (cve_cons rfl cv_id (cve_cons rfl cv_id (cve_cons rfl cv_id (cve_cons rfl cv_id (cve_cons rfl cv_id (cve_cons rfl cv_id (cve_cons rfl cv_id (cve_cons rfl cv_id (cve_cons rfl cv_id (cve_cons rfl cv_id (cve_cons rfl cv_id (cve_cons rfl cv_id (cve_cons rfl cv_id (cve_cons rfl cv_id (cve_cons rfl cv_id (cve_cons rfl cv_id (cve_cons rfl (cv_agg (.cons cv_id (.cons cv_id (.cons cv_eq (.cons cv_id (.cons cv_id (.cons cv_id .nil))))))) cve_nil))))))))))))))))) (all2_app (.cons (cva_blk (.cons cv_id (.cons cv_id (.cons cv_eq (.cons cv_id (.cons cv_id (.cons cv_id .nil))))))) (.cons cva_id (.cons cva_id (.cons cva_id .nil)))) fun _=>cva_id)) (fun _ _=>?_)
  refine el H fun t259 h260 H=>cl rfl cal37 rfl (r07_Add.c h260)<|mv0 rfl rfl<|ex0 rfl trivial rfl rfl<|ex0 rfl trivial rfl rfl<|al rfl trivial zc52 nofun fun b261=>sx 0 rfl trivial rfl rfl cA sz52 rfl rfl rfl nofun ?_
  refine as0 rfl rfl<|.fin<|rg 2 2<|lds 0 rfl trivial rfl sg52 rfl rfl<|sx 2 rfl trivial rfl rfl cA sz52 rfl rfl rfl nofun ?_
  refine .fin ?_
  have H:=H.out
  refine ng (sg 5 [0,1,2,3,4] 2) fun _ _=>?_
  exact jn ((p241.1,p242.1,p241.2.1,p242.2.1,decide (0 < x222),t259.1.fRoom,t259.1.fL,p241.2.2),v240) H
 refine rg 4 8<|mv0 rfl rfl<|el H fun t254 h255 H=>cl rfl cal34 rfl (r01_EventOf.c h255)<|fb rfl trivial rfl fa40_3<|sx 0 rfl trivial rfl rfl cE sz9 rfl rfl rfl nofun ?_
 refine .fin<|WP.seq<|rg 9 192<|lds 1 rfl trivial rfl sg52 rfl rfl<|lds 0 rfl trivial rfl sg40 rfl rfl<|Dv.gh (gh_frz (E':=[(0,vS a0),(1,sl GMade.K a1),(4,eq (.pointer (some ⟨b219,0,none⟩))),(5,eq (.pointer (some ⟨b220,0,none⟩))),(6,vI x222),(7,eq (.pointer (some ⟨b237,0,none⟩))),(8,eq v240.1),(9,vI p241.1),(10,vI p242.1),(11,vI t247),(23,vB (decide (x222 < 9))),(58,vB p241.2.1),(75,vB p242.2.1),(95,vB (decide (0 < x222))),(124,vB (decide (((Event.K.at x224 t247).fThread) = (⟨#[]⟩:ByteArray)))),(129,agg [vS x223,sl Event.K x224]),(130,agg [vS t229,vS a0,sl strK p242.2.2,vS t254,vS t232,vI t235])]) (l':=[blk b237 40 [vS t229,vS a0,sl strK p242.2.2,vS t254,vS t232,vI t235],blk b220 52 [vS x223,sl Event.K x224],blk b219 52 [vS (⟨#[]⟩:ByteArray),eq (.slice none 0 0)],own boolK v240.1 p241.2.2]++F) 4 rfl (cve_cons rfl cv_id (cve_cons rfl cv_id (cve_cons rfl cv_id (cve_cons rfl cv_id (cve_cons rfl cv_id (cve_cons rfl cv_id (cve_cons rfl cv_id (cve_cons rfl cv_id (cve_cons rfl cv_id (cve_cons rfl cv_id (cve_cons rfl cv_id (cve_cons rfl cv_id (cve_cons rfl cv_id (cve_cons rfl cv_id (cve_cons rfl cv_id (cve_cons rfl cv_id (cve_cons rfl (cv_agg (.cons cv_id (.cons cv_id (.cons cv_eq (.cons cv_id (.cons cv_id (.cons cv_id .nil))))))) cve_nil))))))))))))))))) (all2_app (.cons (cva_blk (.cons cv_id (.cons cv_id (.cons cv_eq (.cons cv_id (.cons cv_id (.cons cv_id .nil))))))) (.cons cva_id (.cons cva_id (.cons cva_id .nil)))) fun _=>cva_id)) (fun _ _=>?_)
 refine el H fun t256 h257 H=>cl rfl cal37 rfl (r07_Add.c h257)<|mv0 rfl rfl<|ex0 rfl trivial rfl rfl<|ex0 rfl trivial rfl rfl<|al rfl trivial zc52 nofun fun b258=>sx 0 rfl trivial rfl rfl cA sz52 rfl rfl rfl nofun ?_
 refine as0 rfl rfl<|.fin<|rg 2 2<|lds 0 rfl trivial rfl sg52 rfl rfl<|sx 2 rfl trivial rfl rfl cA sz52 rfl rfl rfl nofun ?_
 refine .fin ?_
 have H:=H.out
 refine ng (sg 5 [0,1,2,3,4] 2) fun _ _=>?_
 exact jn ((p241.1,p242.1,p241.2.1,p242.2.1,decide (0 < x222),t256.1.fRoom,t256.1.fL,p241.2.2),v240) H
theorem r01_RoomOf.c {a0:Int} {r:ByteArray} (h:r01_RoomOf.f a0 = some r):Pt Tryz.prog 23 [vI a0] (vS r):=by
 unfold r01_RoomOf.f at h
 refine pb Tryz.func23 Tryz.ntmps23 h fun R0 F H=>?_
 refine WP.seq<|rg 1 0<|as0 rfl rfl<|.fin<|WP.seq<|rg 6 0<|Dv.lit strK ([(⟨#[33,114,58,115,49]⟩:ByteArray),(⟨#[33,113,58,115,50]⟩:ByteArray)]:List ByteArray) (css:=[[vS (⟨#[33,114,58,115,49]⟩:ByteArray)],[vS (⟨#[33,113,58,115,50]⟩:ByteArray)]]) rfl trivial Tryz.underlying38 Tryz.underlying9 c9 z9 rfl (by decide) (by decide) rfl ⟨(cells_one (one_eq rfl)),⟨(cells_one (one_eq rfl)),trivial⟩⟩ rfl rfl rfl<|mv0 rfl rfl<|el H fun t311 h312 H=>cl rfl cal36 rfl (r01_Around.c h312)<|gr H fun g313 H=>Dv.ixr rfl trivial rfl rfl Tryz.underlying38 Tryz.underlying9 c9 g313.1 g313.2<|ldR rfl trivial rfl sc9 rfl<|as0 rfl rfl<|.fin ?_
 cases H.out; exact r0 i2 rfl (.cons (res_tmp rfl) .nil)
theorem r10_Made.c {k:Nat} {a0:List GMade} {a1:List GMade} {r:(List Event)} (h:r10_Made.f k a0 a1 = some r):Tr Tryz.prog 8 [sl GMade.K a0,sl GMade.K a1] [] (γ:=OV) (fun _=>True) (fun g=>eq g.1) (fun g=>[own Event.K g.1 r]):=by
 unfold r10_Made.f at h
 refine Tr.body Tryz.func8 (c:=_) rfl Tryz.ntmps8 (Nat.le_of_ble_eq_true rfl) fun R0 F=>?_
 replace h:=Gets.of h
 have H:=h
 clear h
 refine WP.seq<|rg 1 0<|as0 rfl rfl<|.fin<|WP.seq<|rg 1 0<|as0 rfl rfl<|.fin<|WP.seq<|rg 7 32<|mv0 rfl rfl<|el H fun t314 h315 H=>cl rfl cal23 rfl (r01_RoomOf.c h315)<|mv0 rfl rfl<|el H fun t316 h317 H=>cl rfl cal22 rfl (r07_Made.c h317)<|Dv.fld rfl trivial rfl Tryz.underlying52 rfl Tryz.underlying33 rfl rfl<|vg (st_nil Event.K none) fun _ _=>?_
 refine gr H fun g318 H=>ap Event.K 0 t316.fL src_sl Tryz.underlying33 (.inr ⟨_,Tryz.underlying33⟩) inf40 g318 nofun fun v319=>?_
 refine as0 rfl rfl<|.fin<|WP.seq<|rg 7 32<|mv0 rfl rfl<|el H fun t320 h321 H=>cl rfl cal23 rfl (r01_RoomOf.c h321)<|mv0 rfl rfl<|el H fun t322 h323 H=>cl rfl cal22 rfl (r07_Made.c h323)<|Dv.fld rfl trivial rfl Tryz.underlying52 rfl Tryz.underlying33 rfl rfl<|gr H fun g324 H=>ap Event.K 0 t322.fL src_sl Tryz.underlying33 (.inr ⟨_,Tryz.underlying33⟩) inf40 g324 nofun fun v325=>?_
 refine as0 rfl rfl<|.fin ?_
 obtain rfl:=Gets.out H
 exact rt i2 rfl v325 1 [0] 0 (.cons (res_tmp rfl) .nil)
theorem view_New.c {r:VView} (h:view_New.f = some r):Tr Tryz.prog 9 [] [] (γ:=OV) (fun _=>True) (fun g=>eq g.1) (fun g=>[VView.O g r]):=by
 unfold view_New.f at h
 refine Tr.body Tryz.func9 (c:=_) rfl Tryz.ntmps9 (Nat.le_of_ble_eq_true rfl) fun R0 F=>?_
 replace h:=Gets.of h
 have H:=h
 clear h
 refine WP.seq<|rg 1 0<|as0 rfl rfl<|.fin<|WP.seq<|rg 4 5<|Dv.mmk Value.string (fun p:OV=>eq p.1) rfl trivial nofun (fun v326=>?_)
 refine vg (mpo_new DDag.O) fun _ _=>?_
 refine Dv.bld (qs:=[eq v326.1]) (css:=[[eq v326.1]]) rfl trivial Tryz.underlying58 pl58 z58 rfl ⟨(cells_one one_ov),trivial⟩ rfl rfl<|Dv.box rfl trivial rfl cA nofun fun b327=>as0 rfl rfl<|.fin<|wg (VView.shut (p:=(⟨.pointer (some ⟨b327,0,none⟩),rfl⟩:OV)) (m:=(⟨([]:List (ByteArray×DDag))⟩:VView)) (b327,v326) rfl (pm 2 [0,1])) fun _ _=>?_
 obtain rfl:=Gets.out H
 exact rt i2 rfl (⟨.pointer (some ⟨b327,0,none⟩),rfl⟩:OV) 1 [0] 0 (.cons (res_tmp rfl) .nil)
theorem dag_New.c {a0:ByteArray} {r:DDag} (h:dag_New.f a0 = some r):Tr Tryz.prog 38 [vS a0] [] (γ:=OV) (fun _=>True) (fun g=>eq g.1) (fun g=>[DDag.O g r]):=by
 unfold dag_New.f at h
 refine Tr.body Tryz.func38 (c:=_) rfl Tryz.ntmps38 (Nat.le_of_ble_eq_true rfl) fun R0 F=>?_
 replace h:=Gets.of h
 have H:=h
 clear h
 refine WP.seq<|rg 1 0<|as0 rfl rfl<|.fin<|WP.seq<|rg 5 10<|mv0 rfl rfl<|Dv.mmk Value.string (fun p:OV=>eq p.1) rfl trivial nofun (fun v328=>?_)
 refine vg (mpo_new DNode.O) fun _ _=>?_
 refine Dv.bld (qs:=[vS a0,eq v328.1]) (css:=[[vS a0],[eq v328.1]]) rfl trivial Tryz.underlying82 pl82 z82 rfl ⟨(cells_one (one_eq rfl)),⟨(cells_one one_ov),trivial⟩⟩ rfl rfl<|Dv.box rfl trivial rfl cA nofun fun b329=>as0 rfl rfl<|.fin<|wg (DDag.shut (p:=(⟨.pointer (some ⟨b329,0,none⟩),rfl⟩:OV)) (m:=(⟨a0,([]:List (ByteArray×DNode))⟩:DDag)) (b329,v328) rfl (pm 2 [0,1])) fun _ _=>?_
 obtain rfl:=Gets.out H
 exact rt i2 rfl (⟨.pointer (some ⟨b329,0,none⟩),rfl⟩:OV) 1 [0] 0 (.cons (res_tmp rfl) .nil)
theorem view_View_room.r {a0:VView} {a1:ByteArray} {r:DDag} (h:view_View_room.f a0 a1 = some r):∀ x,mget a0.fdags a1 = some x→x = r:=fun x e=>by
 unfold view_View_room.f at h; rw [e] at h; exact Option.some.inj h
theorem view_View_room.c {a0:VView} {a1:ByteArray} {b0_:Nat} {v0_0:OV} {r:DDag} (h:view_View_room.f a0 a1 = some r):Tr Tryz.prog 24 [eq (.pointer (some ⟨b0_,0,none⟩)),vS a1] [blk b0_ 58 [eq v0_0.1],mpo Value.string DDag.O v0_0.1 a0.fdags] (γ:=OV) (fun _=>True) (fun g=>eq g.1) (fun g=>[blk b0_ 58 [eq v0_0.1],mpl Value.string DDag.O v0_0.1 a0.fdags a1 g,DDag.O g r]):=by
 unfold view_View_room.f at h
 refine Tr.body Tryz.func24 (c:=_) rfl Tryz.ntmps24 (Nat.le_of_ble_eq_true rfl) fun R0 F=>?_
 replace h:=Gets.of h
 have H:=h
 clear h
 refine WP.seq<|WP.reg [(0,false)] (by kernel_rfl)<|as0 rfl rfl<|.fin<|WP.seq<|WP.seq<|WP.reg [(0,false),(1,false),(2,false),(3,false),(4,false),(5,false),(6,false)] (by kernel_rfl)<|mv0 rfl rfl<|Dv.nilp rfl trivial rfl<|Dv.fab rfl trivial rfl Tryz.underlying58 rfl Tryz.underlying56 c56 (by decide)<|Dv.ldb rfl trivial rfl Tryz.underlying56 rfl (mem_at 0 rfl) rfl<|mv0 rfl rfl<|vg (mpo_opn 1 rfl) fun z1 h1=>?_
 refine Dv.mlv nilP rfl trivial rfl (mem_at 0 rfl) rfl Tryz.underlying56 (keyOk_str Tryz.underlying9) z59 (fun _=>rfl)<|as0 rfl rfl<|.fin<|WP.seq<|WP.reg [(0,false),(1,false)] (by kernel_rfl)<|mv0 rfl rfl<|Dv.pm1 (pm_nil h1 rfl) rfl trivial rfl rfl Tryz.underlying59<|.fin<|WP.cond rfl (fun c1=>?_) (fun c1=>?_)
 ·
  have e1:(mget a0.fdags a1).isSome = true:=by cases e:mget a0.fdags a1 with | none=>rw [e] at c1; cases c1 | some _=>rfl
  have H:=H.ct e1
  obtain rfl:=Gets.out H
  refine WP.seq<|WP.reg [(0,false),(1,false)] (by kernel_rfl)<|mv0 rfl rfl<|as0 rfl rfl<|.fin<|wg (mpl_some h1 rfl e1 (pm 3 [0,1,2])) fun _ _=>?_
  exact rt i2 rfl ((mget (zipK a0.fdags z1) a1).getD nilP) 3 [2,0,1] 0 (.cons (res_tmp rfl) .nil)
 have e1:(mget a0.fdags a1).isSome = false:=by cases e:mget a0.fdags a1 with | none=>rfl | some _=>rw [e] at c1; cases c1
 have H:=H.cf e1
 refine WP.skip<|WP.seq<|WP.reg [(0,false),(1,true),(2,false)] (by kernel_rfl)<|mv0 rfl rfl<|cx 0 [] cal38 (dag_New.c (by obtain ⟨_,e,rfl⟩:=H; exact e)) nofun fun g2 _=>?_
 refine as0 rfl rfl<|.fin<|wg (mpl_none g2 h1 rfl e1 (pm 4 [1,2,0,3])) fun _ _=>?_
 exact rt i2 rfl g2 3 [2,0,1] 0 (.cons (res_tmp rfl) .nil)
theorem slices_IndexFunc_string_x.c {k:Nat} {a0:List ByteArray} {a1:(ByteArray→Option Bool)} {X1_:As} {r:Int} (h:slices_IndexFunc_string_x.f k a0 a1 = some r):Tr Tryz.prog 28 [sl strK a0,fx_string_bool X1_ a1] [X1_] (γ:=Unit) (fun _=>True) (fun g=>vI r) (fun g=>[X1_]):=by
 unfold slices_IndexFunc_string_x.f at h
 refine Tr.body Tryz.func28 (c:=_) rfl Tryz.ntmps28 (Nat.le_of_ble_eq_true rfl) fun R0 F=>?_
 replace h:=Gets.of h
 have H:=h
 clear h
 refine WP.seq<|rg 1 0<|as0 rfl rfl<|.fin<|WP.seqr H id (fun p339:Int×Bool=>[(0,sl strK a0),(1,fx_string_bool X1_ a1),(4,vI 0),(7,vI (a0.length:Int)),(8,vI p339.1),(9,vB p339.2)]) (fun p339:Int×Bool=>[X1_]++F) (fun p339 H=>?_) (fun H=>?_)
 ·
  refine WP.seq<|rg 1 0<|as0 rfl rfl<|.fin ?_
  cases H.out; exact rt i2 rfl () 1 [0] 0 (.cons (res_tmp rfl) .nil)
 refine WP.seq<|rg 3 0<|mv0 rfl rfl<|Dv.lenl rfl trivial rfl Tryz.underlying38<|mv0 rfl rfl<|.fin<|WP.block<|wg (sg 1 [0] 0) fun _ _=>?_
 refine lp (fun j_ (p347:Int)=>slices_IndexFunc_string_x.l0 k a0 a1 j_ p347) 0 H (fun p347=>[(0,sl strK a0),(1,fx_string_bool X1_ a1),(4,vI 0),(7,vI (a0.length:Int)),(8,vI p347)]) (fun p347=>[X1_]++F) ?_
 rintro j_ x340 H
 rcases j_ with _ | j346
 ·
  exact (Gets.no H).elim
 replace H:Gets (slices_IndexFunc_string_x.l0 k a0 a1 (j346 + 1) x340) _:=H
 rw [slices_IndexFunc_string_x.l0] at H
 refine WP.seq<|rg 1 0<|bn0 rfl rfl rfl run_lt<|.fin<|WP.seq<|cd H rfl (fun _ H=>?_) (fun _ H=>?_)
 rotate_left
 ·
  refine WP.exit ?_
  have H:=H.out
  exact jn (x340,decide (x340 < (a0.length:Int))) H
 refine WP.skip<|WP.seq<|WP.block<|WP.seq<|rg 2 0<|mv0 rfl rfl<|as0 rfl rfl<|.fin<|WP.seq<|rg 6 0<|mv0 rfl rfl<|mv0 rfl rfl<|mv0 rfl rfl<|gr H fun g342 H=>Dv.ixr rfl trivial rfl rfl Tryz.underlying38 Tryz.underlying9 c9 g342.1 g342.2<|ldR rfl trivial rfl sc9 rfl<|el H fun t343 h344 H=>Dv.callfx (ret:=vB t343) (X:=X1_) (F:=F) rfl trivial rfl rfl ⟨_,_,h344,rfl,rfl⟩ (perm_to (L:=[X1_]) (F:=F) [0] rfl rfl rfl)<|.fin<|cd H rfl (fun _ H=>?_) (fun _ H=>?_)
 rotate_left
 ·
  exact WP.skip<|rg 2 0<|bn0 rfl rfl rfl run_add<|mv0 rfl rfl<|.fin<|bk j346 (w64 (x340 + 1)) H
 refine WP.seq<|rg 2 0<|mv0 rfl rfl<|as0 rfl rfl<|.fin ?_
 have H:=H.outr
 cases H.out; exact rt i2 rfl () 1 [0] 0 (.cons (res_tmp rfl) .nil)
theorem slices_IndexFunc_string_xw.c {k:Nat} {a0:List ByteArray} {a1:(ByteArray→Option Bool)} {X1_:As} {p0_:OV} {r:Int} (h:slices_IndexFunc_string_xw.f k a0 a1 = some r):Tr Tryz.prog 28 [eq p0_.1,fx_string_bool X1_ a1] [own strK p0_.1 a0,X1_] (γ:=Unit) (fun _=>True) (fun g=>vI r) (fun g=>[own strK p0_.1 a0,X1_]):=by
 unfold slices_IndexFunc_string_xw.f at h
 refine Tr.body Tryz.func28 (c:=_) rfl Tryz.ntmps28 (Nat.le_of_ble_eq_true rfl) fun R0 F=>?_
 replace h:=Gets.of h
 have H:=h
 clear h
 refine WP.seq<|rg 1 0<|as0 rfl rfl<|.fin<|WP.seqr H id (fun p348:Int×Bool=>[(0,eq p0_.1),(1,fx_string_bool X1_ a1),(4,vI 0),(7,vI (a0.length:Int)),(8,vI p348.1),(9,vB p348.2)]) (fun p348:Int×Bool=>[own strK p0_.1 a0,X1_]++F) (fun p348 H=>?_) (fun H=>?_)
 ·
  refine WP.seq<|rg 1 0<|as0 rfl rfl<|.fin ?_
  cases H.out; exact rt i2 rfl () 2 [0,1] 0 (.cons (res_tmp rfl) .nil)
 refine WP.seq<|rg 3 0<|mv0 rfl rfl<|Dv.lenw rfl trivial rfl (mem_at 0 rfl) Tryz.underlying38<|mv0 rfl rfl<|.fin<|WP.block<|wg (sg 2 [0,1] 0) fun _ _=>?_
 refine lp (fun j_ (p357:Int)=>slices_IndexFunc_string_xw.l0 k a0 a1 j_ p357) 0 H (fun p357=>[(0,eq p0_.1),(1,fx_string_bool X1_ a1),(4,vI 0),(7,vI (a0.length:Int)),(8,vI p357)]) (fun p357=>[own strK p0_.1 a0,X1_]++F) ?_
 rintro j_ x349 H
 rcases j_ with _ | j356
 ·
  exact (Gets.no H).elim
 replace H:Gets (slices_IndexFunc_string_xw.l0 k a0 a1 (j356 + 1) x349) _:=H
 rw [slices_IndexFunc_string_xw.l0] at H
 refine WP.seq<|rg 1 0<|bn0 rfl rfl rfl run_lt<|.fin<|WP.seq<|cd H rfl (fun _ H=>?_) (fun _ H=>?_)
 rotate_left
 ·
  refine WP.exit ?_
  have H:=H.out
  exact jn (x349,decide (x349 < (a0.length:Int))) H
 refine WP.skip<|WP.seq<|WP.block<|WP.seq<|rg 2 0<|mv0 rfl rfl<|as0 rfl rfl<|.fin<|WP.seq<|rg 6 0<|mv0 rfl rfl<|mv0 rfl rfl<|mv0 rfl rfl<|gr H fun g351 H=>?_
 have h352:x349.toNat < a0.length:=idx_lt g351
 refine Dv.ixw rfl trivial rfl (mem_at 0 rfl) rfl Tryz.underlying38 Tryz.underlying9 c9 g351.1 g351.2<|Dv.ldw (j:=x349.toNat) (f:=0) (p:=vS (a0.getD x349.toNat default)) rfl trivial rfl (mem_at 0 rfl) h352 Tryz.underlying9 rfl rfl<|el H fun t353 h354 H=>Dv.callfx (ret:=vB t353) (X:=X1_) (F:=[own strK p0_.1 a0]++F) rfl trivial rfl rfl ⟨_,_,h354,rfl,rfl⟩ (perm_to (L:=[own strK p0_.1 a0,X1_]) (F:=F) [1,0] rfl rfl rfl)<|.fin<|cd H rfl (fun _ H=>?_) (fun _ H=>?_)
 rotate_left
 ·
  exact WP.skip<|rg 2 0<|bn0 rfl rfl rfl run_add<|mv0 rfl rfl<|.fin<|bk j356 (w64 (x349 + 1)) H
 refine WP.seq<|rg 2 0<|mv0 rfl rfl<|as0 rfl rfl<|.fin ?_
 have H:=H.outr
 cases H.out; exact rt i2 rfl () 2 [0,1] 0 (.cons (res_tmp rfl) .nil)
theorem slices_ContainsFunc_string_x.c {k:Nat} {a0:List ByteArray} {a1:(ByteArray→Option Bool)} {X1_:As} {r:Bool} (h:slices_ContainsFunc_string_x.f k a0 a1 = some r):Tr Tryz.prog 14 [sl strK a0,fx_string_bool X1_ a1] [X1_] (γ:=Unit) (fun _=>True) (fun g=>vB r) (fun g=>[X1_]):=by
 unfold slices_ContainsFunc_string_x.f at h
 refine Tr.body Tryz.func14 (c:=_) rfl Tryz.ntmps14 (Nat.le_of_ble_eq_true rfl) fun R0 F=>?_
 replace h:=Gets.of h
 have H:=h
 clear h
 refine WP.seq<|rg 1 0<|as0 rfl rfl<|.fin<|WP.seq<|rg 5 0<|mv0 rfl rfl<|mv0 rfl rfl<|el H fun t360 h361 H=>cll 1 [0] cal28 (slices_IndexFunc_string_x.c h361 (X1_:=X1_)) ?_
 refine bn0 rfl rfl rfl run_ge<|as0 rfl rfl<|.fin ?_
 cases H.out; exact rt i2 rfl () 1 [0] 0 (.cons (res_tmp rfl) .nil)
theorem slices_ContainsFunc_string_xw.c {k:Nat} {a0:List ByteArray} {a1:(ByteArray→Option Bool)} {X1_:As} {p0_:OV} {r:Bool} (h:slices_ContainsFunc_string_xw.f k a0 a1 = some r):Tr Tryz.prog 14 [eq p0_.1,fx_string_bool X1_ a1] [own strK p0_.1 a0,X1_] (γ:=Unit) (fun _=>True) (fun g=>vB r) (fun g=>[own strK p0_.1 a0,X1_]):=by
 unfold slices_ContainsFunc_string_xw.f at h
 refine Tr.body Tryz.func14 (c:=_) rfl Tryz.ntmps14 (Nat.le_of_ble_eq_true rfl) fun R0 F=>?_
 replace h:=Gets.of h
 have H:=h
 clear h
 refine WP.seq<|rg 1 0<|as0 rfl rfl<|.fin<|WP.seq<|rg 5 0<|mv0 rfl rfl<|mv0 rfl rfl<|el H fun t362 h363 H=>cll 2 [0,1] cal28 (slices_IndexFunc_string_xw.c h363 (p0_:=p0_) (X1_:=X1_)) ?_
 refine bn0 rfl rfl rfl run_ge<|as0 rfl rfl<|.fin ?_
 cases H.out; exact rt i2 rfl () 2 [0,1] 0 (.cons (res_tmp rfl) .nil)
theorem stringslite_HasPrefix.c {a0:ByteArray} {a1:ByteArray} {r:Bool} (h:stringslite_HasPrefix.f a0 a1 = some r):Pt Tryz.prog 104 [vS a0,vS a1] (vB r):=by
 unfold stringslite_HasPrefix.f at h
 refine pb Tryz.func104 Tryz.ntmps104 h fun R0 F H=>?_
 refine WP.seq<|rg 1 0<|as0 rfl rfl<|.fin<|WP.seq<|rg 14 0<|mv0 rfl rfl<|Dv.lens rfl trivial rfl Tryz.underlying9<|mv0 rfl rfl<|Dv.lens rfl trivial rfl Tryz.underlying9<|bn0 rfl rfl rfl run_ge<|mv0 rfl rfl ?_
 cases c364:decide ((a1.size:Int)≤(a0.size:Int))
 ·
  have H:=H.cf c364
  refine sk rfl rfl<|sk rfl rfl<|sk rfl rfl<|sk rfl rfl<|sk rfl rfl<|sk rfl rfl<|pf0 rfl rfl rfl<|as0 rfl rfl<|.fin ?_
  cases H.out; exact r0 i2 rfl (.cons (res_tmp rfl) .nil)
 have H:=H.ct c364
 refine mvg rfl rfl rfl<|mvg rfl rfl rfl<|Dv.lens rfl (gg rfl) rfl Tryz.underlying9<|gr H fun g365 H=>Dv.sss rfl (gg rfl) rfl Tryz.underlying9 bdE_none (bdE_some rfl g365.1) g365.2.1 g365.2.2<|mvg rfl rfl rfl<|bng rfl rfl rfl rfl run_seq<|pt0 rfl rfl rfl<|as0 rfl rfl<|.fin ?_
 cases H.out; exact r0 i2 rfl (.cons (res_tmp rfl) .nil)
theorem stringslite_CutPrefix.c {a0:ByteArray} {a1:ByteArray} {r:ByteArray×Bool} (h:stringslite_CutPrefix.f a0 a1 = some r):Pt Tryz.prog 90 [vS a0,vS a1] (tup [vS r.1,vB r.2]):=by
 unfold stringslite_CutPrefix.f at h
 refine pb Tryz.func90 Tryz.ntmps90 h fun R0 F H=>?_
 refine WP.seq<|rg 2 0<|as0 rfl rfl<|as0 rfl rfl<|.fin<|WP.seq<|WP.seq<|rg 4 0<|mv0 rfl rfl<|mv0 rfl rfl<|el H fun t366 h367 H=>cl rfl cal104 rfl (stringslite_HasPrefix.c h367)<|un0 rfl rfl (run_not _)<|.fin<|cd H rfl (fun _ H=>?_) (fun _ H=>?_)
 ·
  refine WP.seq<|rg 3 0<|mv0 rfl rfl<|as0 rfl rfl<|as0 rfl rfl<|.fin ?_
  cases H.out; exact r0 i2 rfl (.cons (res_tmp rfl) (.cons (res_tmp rfl) .nil))
 refine WP.skip<|WP.seq<|rg 6 0<|mv0 rfl rfl<|mv0 rfl rfl<|Dv.lens rfl trivial rfl Tryz.underlying9<|gr H fun g369 H=>Dv.sss rfl trivial rfl Tryz.underlying9 (bdE_some rfl g369.1) bdE_none g369.2.1 g369.2.2<|as0 rfl rfl<|as0 rfl rfl<|.fin ?_
 cases H.out; exact r0 i2 rfl (.cons (res_tmp rfl) (.cons (res_tmp rfl) .nil))
theorem strings_CutPrefix.c {a0:ByteArray} {a1:ByteArray} {r:ByteArray×Bool} (h:strings_CutPrefix.f a0 a1 = some r):Pt Tryz.prog 73 [vS a0,vS a1] (tup [vS r.1,vB r.2]):=by
 unfold strings_CutPrefix.f at h
 refine pb Tryz.func73 Tryz.ntmps73 h fun R0 F H=>?_
 refine WP.seq<|rg 2 0<|as0 rfl rfl<|as0 rfl rfl<|.fin<|WP.seq<|rg 7 0<|mv0 rfl rfl<|mv0 rfl rfl<|el H fun t370 h371 H=>cl rfl cal90 rfl (stringslite_CutPrefix.c h371)<|ex0 rfl trivial rfl rfl<|ex0 rfl trivial rfl rfl<|as0 rfl rfl<|as0 rfl rfl<|.fin ?_
 cases H.out; exact r0 i2 rfl (.cons (res_tmp rfl) (.cons (res_tmp rfl) .nil))
theorem name_small.c {a0:Int} {r:Bool} (h:name_small.f a0 = some r):Pt Tryz.prog 106 [eq (.int .u8 a0)] (vB r):=by
 unfold name_small.f at h
 refine pb Tryz.func106 Tryz.ntmps106 h fun R0 F H=>?_
 refine WP.seq<|rg 1 0<|as0 rfl rfl<|.fin<|WP.seq<|rg 15 0<|mv0 rfl rfl<|bn0 rfl rfl rfl run_ge<|mv0 rfl rfl ?_
 cases c372:decide (97≤a0)
 ·
  have H:=H.cf c372
  refine sk rfl rfl<|sk rfl rfl<|pf0 rfl rfl rfl<|mv0 rfl rfl<|mvg rfl rfl rfl<|bng rfl rfl rfl rfl run_ge<|mvg rfl rfl rfl ?_
  cases c375:decide (48≤a0)
  ·
   have H:=H.cf c375
   refine sk rfl rfl<|sk rfl rfl<|pfg rfl rfl rfl rfl<|pf0 rfl rfl rfl<|as0 rfl rfl<|.fin ?_
   cases H.out; exact r0 i2 rfl (.cons (res_tmp rfl) .nil)
  have H:=H.ct c375
  refine mvg rfl rfl rfl<|bng rfl rfl rfl rfl run_le<|ptg rfl rfl rfl rfl<|pf0 rfl rfl rfl<|as0 rfl rfl<|.fin ?_
  cases H.out; exact r0 i2 rfl (.cons (res_tmp rfl) .nil)
 have H:=H.ct c372
 refine mvg rfl rfl rfl<|bng rfl rfl rfl rfl run_le<|pt0 rfl rfl rfl<|mv0 rfl rfl ?_
 cases c373:decide (a0≤122)
 rotate_left
 ·
  have H:=H.ct c373
  refine sk rfl rfl<|sk rfl rfl<|sk rfl rfl<|sku rfl rfl<|sku rfl rfl<|sk rfl rfl<|pt0 rfl rfl rfl<|as0 rfl rfl<|.fin ?_
  cases H.out; exact r0 i2 rfl (.cons (res_tmp rfl) .nil)
 have H:=H.cf c373
 refine mvg rfl rfl rfl<|bng rfl rfl rfl rfl run_ge<|mvg rfl rfl rfl ?_
 cases c374:decide (48≤a0)
 ·
  have H:=H.cf c374
  refine sk rfl rfl<|sk rfl rfl<|pfg rfl rfl rfl rfl<|pf0 rfl rfl rfl<|as0 rfl rfl<|.fin ?_
  cases H.out; exact r0 i2 rfl (.cons (res_tmp rfl) .nil)
 have H:=H.ct c374
 refine mvg rfl rfl rfl<|bng rfl rfl rfl rfl run_le<|ptg rfl rfl rfl rfl<|pf0 rfl rfl rfl<|as0 rfl rfl<|.fin ?_
 cases H.out; exact r0 i2 rfl (.cons (res_tmp rfl) .nil)
theorem stringslite_IndexByte.c {a0:ByteArray} {a1:Int} {r:Int} (h:stringslite_IndexByte.f a0 a1 = some r):Pt Tryz.prog 112 [vS a0,eq (.int .u8 a1)] (vI r):=by
 unfold stringslite_IndexByte.f at h
 refine pb Tryz.func112 Tryz.ntmps112 h fun R0 F H=>?_
 refine WP.seq<|rg 1 0<|as0 rfl rfl<|.fin<|WP.seq<|rg 4 0<|mv0 rfl rfl<|mv0 rfl rfl<|Dv.cext rfl trivial rfl (xt_index Tryz.func115 (by kernel_rfl) rfl xf115 xg115)<|as0 rfl rfl<|.fin ?_
 cases H.out; exact r0 i2 rfl (.cons (res_tmp rfl) .nil)
theorem strings_IndexByte.c {a0:ByteArray} {a1:Int} {r:Int} (h:strings_IndexByte.f a0 a1 = some r):Pt Tryz.prog 107 [vS a0,eq (.int .u8 a1)] (vI r):=by
 unfold strings_IndexByte.f at h
 refine pb Tryz.func107 Tryz.ntmps107 h fun R0 F H=>?_
 refine WP.seq<|rg 1 0<|as0 rfl rfl<|.fin<|WP.seq<|rg 4 0<|mv0 rfl rfl<|mv0 rfl rfl<|el H fun t376 h377 H=>cl rfl cal112 rfl (stringslite_IndexByte.c h377)<|as0 rfl rfl<|.fin ?_
 cases H.out; exact r0 i2 rfl (.cons (res_tmp rfl) .nil)
theorem name_among_1.c {a0:Int} {c0:ByteArray} {r:Bool} (h:name_among_1.f a0 c0 = some r):Pt Tryz.prog 105 [eq (.int .u8 a0),rp [vS c0]] (vB r):=by
 unfold name_among_1.f at h
 refine pb Tryz.func105 Tryz.ntmps105 h fun R0 F H=>?_
 refine WP.seq<|rg 1 0<|as0 rfl rfl<|.fin<|WP.seq<|rg 9 0<|mv0 rfl rfl<|el H fun t378 h379 H=>cl rfl cal106 rfl (name_small.c h379)<|mv0 rfl rfl ?_
 cases c380:t378
 rotate_left
 ·
  have H:=H.ct c380
  refine sk rfl rfl<|sk rfl rfl<|sk rfl rfl<|sk rfl rfl<|pt0 rfl rfl rfl<|as0 rfl rfl<|.fin ?_
  cases H.out; exact r0 i2 rfl (.cons (res_tmp rfl) .nil)
 have H:=H.cf c380
 refine ldR rfl (gg rfl) rfl sc9 rfl<|mvg rfl rfl rfl<|el H fun t381 h382 H=>Dv.call rfl (gg rfl) cal107 rfl (strings_IndexByte.c h382)<|bng rfl rfl rfl rfl run_ge<|pf0 rfl rfl rfl<|as0 rfl rfl<|.fin ?_
 cases H.out; exact r0 i2 rfl (.cons (res_tmp rfl) .nil)
theorem name_among.c {a0:ByteArray} {r:(Int→Option Bool)} (h:name_among.f a0 = some r):Pt Tryz.prog 91 [vS a0] (fq_uint8_bool r):=by
 unfold name_among.f at h
 refine pb Tryz.func91 Tryz.ntmps91 h fun R0 F H=>?_
 refine WP.seq<|rg 2 1<|Dv.box rfl trivial rfl cE nofun fun b383=>as0 rfl rfl<|.fin<|WP.seq<|rg 2 0<|Dv.gh (gh_frzb (E':=[(0,vS a0),(1,rp [vS a0]),(2,eq .nilFunc)]) (l':=F) 0 rfl (cve_cons rfl cv_id (cve_cons rfl cv_eq (cve_cons rfl cv_id cve_nil))) (all2_app .nil fun _=>cva_id)) (fun _ _=>?_)
 refine Dv.mkf (Q:=fqQ_uint8_bool (fun a0_=>name_among_1.f a0_ a0)) cal105 (by rintro _ _ ⟨a0_,r_,h_,rfl,rfl⟩; exact name_among_1.c h_) rfl trivial rfl rfl<|as0 rfl rfl<|.fin ?_
 cases H.out; exact r0 i2 rfl (.cons (res_tmp rfl) .nil)
theorem name_may.c {k:Nat} {a0:ByteArray} {a1:Int} {r:Bool} (h:name_may.f k a0 a1 = some r):Pt Tryz.prog 74 [vS a0,vI a1] (vB r):=by
 unfold name_may.f at h
 refine pb Tryz.func74 Tryz.ntmps74 h fun R0 F H=>?_
 refine WP.seq<|rg 1 0<|as0 rfl rfl<|.fin<|WP.seq<|rg 7 0<|el H fun t384 h385 H=>cl rfl cal91 rfl (name_among.c h385)<|el H fun t386 h387 H=>cl rfl cal91 rfl (name_among.c h387)<|el H fun t388 h389 H=>cl rfl cal91 rfl (name_among.c h389)<|Dv.blda (qs:=[fq_uint8_bool t384,fq_uint8_bool t386,fq_uint8_bool t388]) (css:=[[fq_uint8_bool t384],[fq_uint8_bool t386],[fq_uint8_bool t388]]) rfl trivial Tryz.underlying130 Tryz.underlying127 c127 z130 rfl ⟨(cells_one one_fnq),⟨(cells_one one_fnq),⟨(cells_one one_fnq),trivial⟩⟩⟩ rfl rfl<|mv0 rfl rfl<|gr H fun g390 H=>Dv.ixa (Kd:=fK_uint8_bool) (xs:=([t384,t386,t388]:List (Int→Option Bool))) rfl trivial rfl rfl rfl Tryz.underlying130 Tryz.underlying127 rfl c127 rfl rfl g390.1 g390.2 rfl<|as0 rfl rfl<|.fin<|WP.seqr H id (fun p391:Int×Bool=>[(0,vS a0),(1,vI a1),(4,vB false),(5,fq_uint8_bool (fK_uint8_bool.at ([t384,t386,t388]:List (Int→Option Bool)) a1)),(14,vI (a0.size:Int)),(15,vI p391.1),(16,vB p391.2)]) (fun p391:Int×Bool=>F) (fun p391 H=>?_) (fun H=>?_)
 ·
  refine WP.seq<|rg 8 0<|mv0 rfl rfl<|bn0 rfl rfl rfl run_sne<|mv0 rfl rfl ?_
  cases c392:!decide (a0 = (⟨#[]⟩:ByteArray))
  ·
   have H:=H.cf c392
   refine sk rfl rfl<|sk rfl rfl<|sk rfl rfl<|pf0 rfl rfl rfl<|as0 rfl rfl<|.fin ?_
   cases H.out; exact r0 i2 rfl (.cons (res_tmp rfl) .nil)
  have H:=H.ct c392
  refine mvg rfl rfl rfl<|Dv.lens rfl (gg rfl) rfl Tryz.underlying9<|bng rfl rfl rfl rfl run_le<|pt0 rfl rfl rfl<|as0 rfl rfl<|.fin ?_
  cases H.out; exact r0 i2 rfl (.cons (res_tmp rfl) .nil)
 refine WP.seq<|rg 3 0<|mv0 rfl rfl<|Dv.lens rfl trivial rfl Tryz.underlying9<|mv0 rfl rfl<|.fin<|WP.block<|wg (sg 0 [] 0) fun _ _=>?_
 refine lp (fun j_ (p400:Int)=>name_may.l0 k a0 a1 t384 t386 t388 j_ p400) 0 H (fun p400=>[(0,vS a0),(1,vI a1),(4,vB false),(5,fq_uint8_bool (fK_uint8_bool.at ([t384,t386,t388]:List (Int→Option Bool)) a1)),(14,vI (a0.size:Int)),(15,vI p400)]) (fun p400=>F) ?_
 rintro j_ x393 H
 rcases j_ with _ | j399
 ·
  exact (Gets.no H).elim
 replace H:Gets (name_may.l0 k a0 a1 t384 t386 t388 (j399 + 1) x393) _:=H
 rw [name_may.l0] at H
 refine WP.seq<|rg 1 0<|bn0 rfl rfl rfl run_lt<|.fin<|WP.seq<|cd H rfl (fun _ H=>?_) (fun _ H=>?_)
 rotate_left
 ·
  refine WP.exit ?_
  have H:=H.out
  exact jn (x393,decide (x393 < (a0.size:Int))) H
 refine WP.skip<|WP.seq<|WP.block<|WP.seq<|rg 2 0<|mv0 rfl rfl<|as0 rfl rfl<|.fin<|WP.seq<|rg 6 0<|mv0 rfl rfl<|mv0 rfl rfl<|mv0 rfl rfl<|gr H fun g395 H=>Dv.ixs rfl trivial rfl rfl Tryz.underlying9 g395.1 g395.2<|el H fun t396 h397 H=>Dv.callq (ret:=vB t396) rfl trivial rfl rfl ⟨_,_,h397,rfl,rfl⟩<|un0 rfl rfl (run_not _)<|.fin<|cd H rfl (fun _ H=>?_) (fun _ H=>?_)
 rotate_left
 ·
  exact WP.skip<|rg 2 0<|bn0 rfl rfl rfl run_add<|mv0 rfl rfl<|.fin<|bk j399 (w64 (x393 + 1)) H
 refine WP.seq<|rg 1 0<|as0 rfl rfl<|.fin ?_
 have H:=H.outr
 cases H.out; exact r0 i2 rfl (.cons (res_tmp rfl) .nil)
theorem name_Event.c {k:Nat} {a0:ByteArray} {r:Bool} (h:name_Event.f k a0 = some r):Pt Tryz.prog 54 [vS a0] (vB r):=by
 unfold name_Event.f at h
 refine pb Tryz.func54 Tryz.ntmps54 h fun R0 F H=>?_
 refine WP.seq<|rg 1 0<|as0 rfl rfl<|.fin<|WP.seq<|rg 7 0<|mv0 rfl rfl<|el H fun t401 h402 H=>cl rfl cal73 rfl (strings_CutPrefix.c h402)<|mv0 rfl rfl<|ex0 rfl trivial rfl rfl<|ex0 rfl trivial rfl rfl<|as0 rfl rfl<|as0 rfl rfl<|.fin<|WP.seq<|rg 6 0<|mv0 rfl rfl<|mv0 rfl rfl ?_
 cases c403:t401.2
 ·
  have H:=H.cf c403
  refine sk rfl rfl<|sk rfl rfl<|pf0 rfl rfl rfl<|as0 rfl rfl<|.fin ?_
  cases H.out; exact r0 i2 rfl (.cons (res_tmp rfl) .nil)
 have H:=H.ct c403
 refine mvg rfl rfl rfl<|el H fun t404 h405 H=>Dv.call rfl (gg rfl) cal74 rfl (name_may.c h405)<|pt0 rfl rfl rfl<|as0 rfl rfl<|.fin ?_
 cases H.out; exact r0 i2 rfl (.cons (res_tmp rfl) .nil)
theorem stringslite_Index.c {a0:ByteArray} {a1:ByteArray} {r:Int} (h:stringslite_Index.f a0 a1 = some r):Pt Tryz.prog 113 [vS a0,vS a1] (vI r):=by
 unfold stringslite_Index.f at h
 refine pb Tryz.func113 Tryz.ntmps113 h fun R0 F H=>?_
 refine WP.seq<|rg 1 0<|as0 rfl rfl<|.fin<|WP.seq<|rg 3 0<|mv0 rfl rfl<|Dv.lens rfl trivial rfl Tryz.underlying9<|as0 rfl rfl<|.fin<|WP.seq<|WP.block<|WP.seq<|rg 8 0<|mv0 rfl rfl<|bn0 rfl rfl rfl run_eq<|mv0 rfl rfl ?_
 cases c406:((a1.size:Int) == 0)
 rotate_left
 ·
  have H:=H.ct c406
  refine sk rfl rfl<|sk rfl rfl<|sk rfl rfl<|pt0 rfl rfl rfl<|as0 rfl rfl<|.fin<|WP.cond rfl (fun _=>?_) nofun
  refine WP.seq<|rg 1 0<|as0 rfl rfl<|.fin ?_
  cases H.out; exact r0 i2 rfl (.cons (res_tmp rfl) .nil)
 have H:=H.cf c406
 refine mvg rfl rfl rfl<|mvg rfl rfl rfl<|bng rfl rfl rfl rfl run_seq<|pf0 rfl rfl rfl<|as0 rfl rfl<|.fin<|cd H rfl (fun _ H=>?_) (fun _ H=>?_)
 ·
  refine WP.seq<|rg 1 0<|as0 rfl rfl<|.fin ?_
  cases H.out; exact r0 i2 rfl (.cons (res_tmp rfl) .nil)
 refine WP.seq<|rg 3 0<|mv0 rfl rfl<|bn0 rfl rfl rfl run_eq<|as0 rfl rfl<|.fin<|cd H rfl (fun _ H=>?_) (fun _ H=>?_)
 ·
  refine WP.seq<|rg 5 0<|mv0 rfl rfl<|mv0 rfl rfl<|gr H fun g410 H=>Dv.ixs rfl trivial rfl rfl Tryz.underlying9 g410.1 g410.2<|el H fun t411 h412 H=>cl rfl cal112 rfl (stringslite_IndexByte.c h412)<|as0 rfl rfl<|.fin ?_
  cases H.out; exact r0 i2 rfl (.cons (res_tmp rfl) .nil)
 refine WP.seq<|rg 5 0<|mv0 rfl rfl<|mv0 rfl rfl<|Dv.lens rfl trivial rfl Tryz.underlying9<|bn0 rfl rfl rfl run_ge<|as0 rfl rfl<|.fin<|cd H rfl (fun _ H=>?_) (fun _ H=>?_)
 rotate_left
 ·
  exact (Gets.no H).elim
 refine WP.seq<|rg 1 0<|as0 rfl rfl<|.fin ?_
 cases H.out; exact r0 i2 rfl (.cons (res_tmp rfl) .nil)
theorem stringslite_Cut.c {a0:ByteArray} {a1:ByteArray} {r:ByteArray×ByteArray×Bool} (h:stringslite_Cut.f a0 a1 = some r):Pt Tryz.prog 108 [vS a0,vS a1] (tup [vS r.1,vS r.2.1,vB r.2.2]):=by
 unfold stringslite_Cut.f at h
 refine pb Tryz.func108 Tryz.ntmps108 h fun R0 F H=>?_
 refine WP.seq<|rg 3 0<|as0 rfl rfl<|as0 rfl rfl<|as0 rfl rfl<|.fin<|WP.seq<|WP.seq<|rg 4 0<|mv0 rfl rfl<|mv0 rfl rfl<|el H fun t414 h415 H=>cl rfl cal113 rfl (stringslite_Index.c h415)<|as0 rfl rfl<|.fin<|WP.seq<|rg 2 0<|mv0 rfl rfl<|bn0 rfl rfl rfl run_ge<|.fin<|cd H rfl (fun _ H=>?_) (fun _ H=>?_)
 rotate_left
 ·
  refine WP.skip<|WP.seq<|rg 4 0<|mv0 rfl rfl<|as0 rfl rfl<|as0 rfl rfl<|as0 rfl rfl<|.fin ?_
  cases H.out; exact r0 i2 rfl (.cons (res_tmp rfl) (.cons (res_tmp rfl) (.cons (res_tmp rfl) .nil)))
 refine WP.seq<|dg Tryz.checked.mixed 12 0<|mv0 rfl rfl<|mv0 rfl rfl<|gr H fun g417 H=>Dv.sss rfl trivial rfl Tryz.underlying9 bdE_none (bdE_some rfl g417.1) g417.2.1 g417.2.2<|mv0 rfl rfl<|mv0 rfl rfl<|mv0 rfl rfl<|Dv.lens rfl trivial rfl Tryz.underlying9<|bn0 rfl rfl rfl run_add<|gr H fun g418 H=>Dv.sss rfl trivial rfl Tryz.underlying9 (bdE_some rfl g418.1) bdE_none g418.2.1 g418.2.2<|as0 rfl rfl<|as0 rfl rfl<|as0 rfl rfl<|.fin ?_
 cases H.out; exact r0 i2 rfl (.cons (res_tmp rfl) (.cons (res_tmp rfl) (.cons (res_tmp rfl) .nil)))
theorem strings_Cut.c {a0:ByteArray} {a1:ByteArray} {r:ByteArray×ByteArray×Bool} (h:strings_Cut.f a0 a1 = some r):Pt Tryz.prog 92 [vS a0,vS a1] (tup [vS r.1,vS r.2.1,vB r.2.2]):=by
 unfold strings_Cut.f at h
 refine pb Tryz.func92 Tryz.ntmps92 h fun R0 F H=>?_
 refine WP.seq<|rg 3 0<|as0 rfl rfl<|as0 rfl rfl<|as0 rfl rfl<|.fin<|WP.seq<|rg 9 0<|mv0 rfl rfl<|mv0 rfl rfl<|el H fun t419 h420 H=>cl rfl cal108 rfl (stringslite_Cut.c h420)<|ex0 rfl trivial rfl rfl<|ex0 rfl trivial rfl rfl<|ex0 rfl trivial rfl rfl<|as0 rfl rfl<|as0 rfl rfl<|as0 rfl rfl<|.fin ?_
 cases H.out; exact r0 i2 rfl (.cons (res_tmp rfl) (.cons (res_tmp rfl) (.cons (res_tmp rfl) .nil)))
theorem name_Server.c {k:Nat} {a0:ByteArray} {r:Bool} (h:name_Server.f k a0 = some r):Pt Tryz.prog 93 [vS a0] (vB r):=by
 unfold name_Server.f at h
 refine pb Tryz.func93 Tryz.ntmps93 h fun R0 F H=>?_
 refine WP.seq<|rg 1 0<|as0 rfl rfl<|.fin<|WP.seq<|rg 16 0<|mv0 rfl rfl<|el H fun t421 h422 H=>cl rfl cal74 rfl (name_may.c h422)<|mv0 rfl rfl ?_
 cases c423:t421
 ·
  have H:=H.cf c423
  refine sk rfl rfl<|sk rfl rfl<|sk rfl rfl<|pf0 rfl rfl rfl<|mv0 rfl rfl<|sk rfl rfl<|sk rfl rfl<|sk rfl rfl<|sk rfl rfl<|sk rfl rfl<|sk rfl rfl<|pf0 rfl rfl rfl<|as0 rfl rfl<|.fin ?_
  cases H.out; exact r0 i2 rfl (.cons (res_tmp rfl) .nil)
 have H:=H.ct c423
 refine mvg rfl rfl rfl<|gr H fun g424 H=>Dv.ixs rfl (gg rfl) rfl rfl Tryz.underlying9 g424.1 g424.2<|el H fun t425 h426 H=>Dv.call rfl (gg rfl) cal106 rfl (name_small.c h426)<|pt0 rfl rfl rfl<|mv0 rfl rfl ?_
 cases c427:t425
 ·
  have H:=H.cf c427
  refine sk rfl rfl<|sk rfl rfl<|sk rfl rfl<|sk rfl rfl<|sk rfl rfl<|sk rfl rfl<|pf0 rfl rfl rfl<|as0 rfl rfl<|.fin ?_
  cases H.out; exact r0 i2 rfl (.cons (res_tmp rfl) .nil)
 have H:=H.ct c427
 refine mvg rfl rfl rfl<|mvg rfl rfl rfl<|Dv.lens rfl (gg rfl) rfl Tryz.underlying9<|bng rfl rfl rfl rfl run_sub<|gr H fun g428 H=>Dv.ixs rfl (gg rfl) rfl rfl Tryz.underlying9 g428.1 g428.2<|el H fun t429 h430 H=>Dv.call rfl (gg rfl) cal106 rfl (name_small.c h430)<|pt0 rfl rfl rfl<|as0 rfl rfl<|.fin ?_
 cases H.out; exact r0 i2 rfl (.cons (res_tmp rfl) .nil)
theorem name_split.c {k:Nat} {a0:ByteArray} {a1:ByteArray} {r:ByteArray×ByteArray×Bool} (h:name_split.f k a0 a1 = some r):Pt Tryz.prog 75 [vS a0,vS a1] (tup [vS r.1,vS r.2.1,vB r.2.2]):=by
 unfold name_split.f at h
 refine pb Tryz.func75 Tryz.ntmps75 h fun R0 F H=>?_
 refine WP.seq<|rg 3 0<|as0 rfl rfl<|as0 rfl rfl<|as0 rfl rfl<|.fin<|WP.seq<|rg 8 0<|mv0 rfl rfl<|mv0 rfl rfl<|el H fun t431 h432 H=>cl rfl cal73 rfl (strings_CutPrefix.c h432)<|mv0 rfl rfl<|ex0 rfl trivial rfl rfl<|ex0 rfl trivial rfl rfl<|as0 rfl rfl<|as0 rfl rfl<|.fin<|WP.seq<|rg 9 0<|mv0 rfl rfl<|el H fun t433 h434 H=>cl rfl cal92 rfl (strings_Cut.c h434)<|mv0 rfl rfl<|ex0 rfl trivial rfl rfl<|ex0 rfl trivial rfl rfl<|ex0 rfl trivial rfl rfl<|as0 rfl rfl<|as0 rfl rfl<|as0 rfl rfl<|.fin<|WP.seq<|rg 17 0<|mv0 rfl rfl<|mv0 rfl rfl<|mv0 rfl rfl<|mv0 rfl rfl ?_
 cases c435:t431.2
 ·
  have H:=H.cf c435
  refine sk rfl rfl<|pf0 rfl rfl rfl<|mv0 rfl rfl<|sk rfl rfl<|sk rfl rfl<|pf0 rfl rfl rfl<|mv0 rfl rfl<|sk rfl rfl<|sk rfl rfl<|pf0 rfl rfl rfl<|as0 rfl rfl<|as0 rfl rfl<|as0 rfl rfl<|.fin ?_
  cases H.out; exact r0 i2 rfl (.cons (res_tmp rfl) (.cons (res_tmp rfl) (.cons (res_tmp rfl) .nil)))
 have H:=H.ct c435
 refine mvg rfl rfl rfl<|pt0 rfl rfl rfl<|mv0 rfl rfl ?_
 cases c436:t433.2.2
 ·
  have H:=H.cf c436
  refine sk rfl rfl<|sk rfl rfl<|pf0 rfl rfl rfl<|mv0 rfl rfl<|sk rfl rfl<|sk rfl rfl<|pf0 rfl rfl rfl<|as0 rfl rfl<|as0 rfl rfl<|as0 rfl rfl<|.fin ?_
  cases H.out; exact r0 i2 rfl (.cons (res_tmp rfl) (.cons (res_tmp rfl) (.cons (res_tmp rfl) .nil)))
 have H:=H.ct c436
 refine mvg rfl rfl rfl<|el H fun t437 h438 H=>Dv.call rfl (gg rfl) cal74 rfl (name_may.c h438)<|pt0 rfl rfl rfl<|mv0 rfl rfl ?_
 cases c439:t437
 ·
  have H:=H.cf c439
  refine sk rfl rfl<|sk rfl rfl<|pf0 rfl rfl rfl<|as0 rfl rfl<|as0 rfl rfl<|as0 rfl rfl<|.fin ?_
  cases H.out; exact r0 i2 rfl (.cons (res_tmp rfl) (.cons (res_tmp rfl) (.cons (res_tmp rfl) .nil)))
 have H:=H.ct c439
 refine mvg rfl rfl rfl<|el H fun t440 h441 H=>Dv.call rfl (gg rfl) cal93 rfl (name_Server.c h441)<|pt0 rfl rfl rfl<|as0 rfl rfl<|as0 rfl rfl<|as0 rfl rfl<|.fin ?_
 cases H.out; exact r0 i2 rfl (.cons (res_tmp rfl) (.cons (res_tmp rfl) (.cons (res_tmp rfl) .nil)))
theorem name_Room.c {k:Nat} {a0:ByteArray} {r:Bool} (h:name_Room.f k a0 = some r):Pt Tryz.prog 55 [vS a0] (vB r):=by
 unfold name_Room.f at h
 refine pb Tryz.func55 Tryz.ntmps55 h fun R0 F H=>?_
 refine WP.seq<|rg 1 0<|as0 rfl rfl<|.fin<|WP.seq<|rg 9 0<|mv0 rfl rfl<|el H fun t442 h443 H=>cl rfl cal75 rfl (name_split.c h443)<|mv0 rfl rfl<|ex0 rfl trivial rfl rfl<|ex0 rfl trivial rfl rfl<|ex0 rfl trivial rfl rfl<|as0 rfl rfl<|as0 rfl rfl<|as0 rfl rfl<|.fin<|WP.seq<|rg 2 0<|mv0 rfl rfl<|as0 rfl rfl<|.fin ?_
 cases H.out; exact r0 i2 rfl (.cons (res_tmp rfl) .nil)
theorem name_User.c {k:Nat} {a0:ByteArray} {r:Bool} (h:name_User.f k a0 = some r):Pt Tryz.prog 56 [vS a0] (vB r):=by
 unfold name_User.f at h
 refine pb Tryz.func56 Tryz.ntmps56 h fun R0 F H=>?_
 refine WP.seq<|rg 1 0<|as0 rfl rfl<|.fin<|WP.seq<|rg 9 0<|mv0 rfl rfl<|el H fun t444 h445 H=>cl rfl cal75 rfl (name_split.c h445)<|mv0 rfl rfl<|ex0 rfl trivial rfl rfl<|ex0 rfl trivial rfl rfl<|ex0 rfl trivial rfl rfl<|as0 rfl rfl<|as0 rfl rfl<|as0 rfl rfl<|.fin<|WP.seq<|rg 2 0<|mv0 rfl rfl<|as0 rfl rfl<|.fin ?_
 cases H.out; exact r0 i2 rfl (.cons (res_tmp rfl) .nil)
theorem dag_May.c {k:Nat} {a0:Event} {r:Bool} (h:dag_May.f k a0 = some r):Pt Tryz.prog 39 [agg (Event.enc a0)] (vB r):=by
 unfold dag_May.f at h
 refine pb Tryz.func39 Tryz.ntmps39 h fun R0 F H=>?_
 refine WP.seq<|rg 2 1<|Dv.box rfl trivial rfl cA nofun fun b446=>as0 rfl rfl<|.fin<|WP.scope<|WP.seq<|WP.seq<|rg 32 0<|fb rfl trivial rfl fa40_0<|ld 0 rfl trivial rfl sc9 rfl rfl<|el H fun t447 h448 H=>cl rfl cal54 rfl (name_Event.c h448)<|un0 rfl rfl (run_not _)<|mv0 rfl rfl ?_
 cases c449:!t447
 rotate_left
 ·
  have H:=H.ct c449
  refine sk rfl rfl<|sk rfl rfl<|sk rfl rfl<|sk rfl rfl<|pt0 rfl rfl rfl<|mv0 rfl rfl<|sk rfl rfl<|sk rfl rfl<|sk rfl rfl<|sk rfl rfl<|pt0 rfl rfl rfl<|mv0 rfl rfl<|sk rfl rfl<|sk rfl rfl<|sk rfl rfl<|sk rfl rfl<|pt0 rfl rfl rfl<|mv0 rfl rfl<|sk rfl rfl<|sk rfl rfl<|sk rfl rfl<|pt0 rfl rfl rfl<|mv0 rfl rfl<|sk rfl rfl<|sk rfl rfl<|sk rfl rfl<|pt0 rfl rfl rfl<|.fin<|WP.cond rfl (fun _=>?_) nofun
  refine WP.seq<|rg 1 0<|as0 rfl rfl<|.fin ?_
  cases H.out; exact r1 i2 rfl (.cons (res_tmp rfl) .nil)
 have H:=H.cf c449
 refine fb rfl (gg rfl) rfl fa40_1<|ld 0 rfl (gg rfl) rfl sc9 rfl rfl<|el H fun t451 h452 H=>Dv.call rfl (gg rfl) cal55 rfl (name_Room.c h452)<|ung rfl rfl rfl (run_not _)<|pf0 rfl rfl rfl<|mv0 rfl rfl ?_
 cases c453:!t451
 rotate_left
 ·
  have H:=H.ct c453
  refine sk rfl rfl<|sk rfl rfl<|sk rfl rfl<|sk rfl rfl<|pt0 rfl rfl rfl<|mv0 rfl rfl<|sk rfl rfl<|sk rfl rfl<|sk rfl rfl<|sk rfl rfl<|pt0 rfl rfl rfl<|mv0 rfl rfl<|sk rfl rfl<|sk rfl rfl<|sk rfl rfl<|pt0 rfl rfl rfl<|mv0 rfl rfl<|sk rfl rfl<|sk rfl rfl<|sk rfl rfl<|pt0 rfl rfl rfl<|.fin<|WP.cond rfl (fun _=>?_) nofun
  refine WP.seq<|rg 1 0<|as0 rfl rfl<|.fin ?_
  cases H.out; exact r1 i2 rfl (.cons (res_tmp rfl) .nil)
 have H:=H.cf c453
 refine fb rfl (gg rfl) rfl fa40_4<|ld 0 rfl (gg rfl) rfl sc9 rfl rfl<|el H fun t455 h456 H=>Dv.call rfl (gg rfl) cal56 rfl (name_User.c h456)<|ung rfl rfl rfl (run_not _)<|pf0 rfl rfl rfl<|mv0 rfl rfl ?_
 cases c457:!t455
 rotate_left
 ·
  have H:=H.ct c457
  refine sk rfl rfl<|sk rfl rfl<|sk rfl rfl<|sk rfl rfl<|pt0 rfl rfl rfl<|mv0 rfl rfl<|sk rfl rfl<|sk rfl rfl<|sk rfl rfl<|pt0 rfl rfl rfl<|mv0 rfl rfl<|sk rfl rfl<|sk rfl rfl<|sk rfl rfl<|pt0 rfl rfl rfl<|.fin<|WP.cond rfl (fun _=>?_) nofun
  refine WP.seq<|rg 1 0<|as0 rfl rfl<|.fin ?_
  cases H.out; exact r1 i2 rfl (.cons (res_tmp rfl) .nil)
 have H:=H.cf c457
 refine fb rfl (gg rfl) rfl fa40_2<|ld 0 rfl (gg rfl) rfl sc38 rfl rfl<|Dv.lenl rfl (gg rfl) rfl Tryz.underlying38<|bng rfl rfl rfl rfl run_gt<|pf0 rfl rfl rfl<|mv0 rfl rfl ?_
 cases c459:decide (4 < (a0.fParents.length:Int))
 rotate_left
 ·
  have H:=H.ct c459
  refine sk rfl rfl<|sk rfl rfl<|sk rfl rfl<|pt0 rfl rfl rfl<|mv0 rfl rfl<|sk rfl rfl<|sk rfl rfl<|sk rfl rfl<|pt0 rfl rfl rfl<|.fin<|WP.cond rfl (fun _=>?_) nofun
  refine WP.seq<|rg 1 0<|as0 rfl rfl<|.fin ?_
  cases H.out; exact r1 i2 rfl (.cons (res_tmp rfl) .nil)
 have H:=H.cf c459
 refine fb rfl (gg rfl) rfl fa40_5<|ld 0 rfl (gg rfl) rfl sc3 rfl rfl<|bng rfl rfl rfl rfl run_lt<|pf0 rfl rfl rfl<|mv0 rfl rfl ?_
 cases c461:decide (a0.fDoes < 0)
 rotate_left
 ·
  have H:=H.ct c461
  refine sk rfl rfl<|sk rfl rfl<|sk rfl rfl<|pt0 rfl rfl rfl<|.fin<|WP.cond rfl (fun _=>?_) nofun
  refine WP.seq<|rg 1 0<|as0 rfl rfl<|.fin ?_
  cases H.out; exact r1 i2 rfl (.cons (res_tmp rfl) .nil)
 have H:=H.cf c461
 refine fb rfl (gg rfl) rfl fa40_5<|ld 0 rfl (gg rfl) rfl sc3 rfl rfl<|bng rfl rfl rfl rfl run_gt<|pf0 rfl rfl rfl<|.fin<|cd H rfl (fun _ H=>?_) (fun _ H=>?_)
 ·
  refine WP.seq<|rg 1 0<|as0 rfl rfl<|.fin ?_
  cases H.out; exact r1 i2 rfl (.cons (res_tmp rfl) .nil)
 refine WP.skip<|WP.seq<|WP.seq<|rg 21 0<|fb rfl trivial rfl fa40_3<|ld 0 rfl trivial rfl sc9 rfl rfl<|bn0 rfl rfl rfl run_sne<|mv0 rfl rfl ?_
 cases c464:!decide (a0.fThread = (⟨#[]⟩:ByteArray))
 ·
  have H:=H.cf c464
  refine sk rfl rfl<|sk rfl rfl<|sk rfl rfl<|sk rfl rfl<|sk rfl rfl<|sku rfl rfl<|sku rfl rfl<|sku rfl rfl<|sku rfl rfl<|sku rfl rfl<|sk rfl rfl<|sk rfl rfl<|sku rfl rfl<|sku rfl rfl<|sku rfl rfl<|sk rfl rfl<|pf0 rfl rfl rfl<|.fin<|WP.cond rfl nofun (fun _=>?_)
  refine WP.skip<|WP.seq<|rg 1 0<|as0 rfl rfl<|.fin<|WP.seq<|WP.label<|WP.seqn H id (fun p489:Bool×Int×Bool=>[(0,agg (Event.enc a0)),(1,eq (.pointer (some ⟨b446,0,none⟩))),(2,vB false),(3,vB p489.1),(37,vB (decide (2 < a0.fDoes))),(58,vB false),(60,sl strK a0.fParents),(61,vI (a0.fParents.length:Int)),(62,vI p489.2.1),(63,vB p489.2.2)]) (fun p489:Bool×Int×Bool=>[blk b446 40 (Event.enc a0)]++F) (fun p489 H=>?_) (fun H=>?_)
  ·
   refine WP.seq<|rg 2 0<|mv0 rfl rfl<|as0 rfl rfl<|.fin ?_
   cases H.out; exact r1 i2 rfl (.cons (res_tmp rfl) .nil)
  refine WP.seq<|rg 4 0<|fb rfl trivial rfl fa40_2<|ld 0 rfl trivial rfl sc38 rfl rfl<|Dv.lenl rfl trivial rfl Tryz.underlying38<|mv0 rfl rfl<|.fin<|WP.block<|wg (sg 1 [0] 0) fun _ _=>?_
  refine lp (fun j_ (p504:Int)=>dag_May.l1 k a0 j_ p504) 0 H (fun p504=>[(0,agg (Event.enc a0)),(1,eq (.pointer (some ⟨b446,0,none⟩))),(2,vB false),(3,vB true),(37,vB (decide (2 < a0.fDoes))),(58,vB false),(60,sl strK a0.fParents),(61,vI (a0.fParents.length:Int)),(62,vI p504)]) (fun p504=>[blk b446 40 (Event.enc a0)]++F) ?_
  rintro j_ x490 H
  rcases j_ with _ | j503
  ·
   exact (Gets.no H).elim
  replace H:Gets (dag_May.l1 k a0 (j503 + 1) x490) _:=H
  rw [dag_May.l1] at H
  refine WP.seq<|rg 1 0<|bn0 rfl rfl rfl run_lt<|.fin<|WP.seq<|cd H rfl (fun _ H=>?_) (fun _ H=>?_)
  rotate_left
  ·
   refine WP.exit ?_
   have H:=H.out
   exact jn (true,x490,decide (x490 < (a0.fParents.length:Int))) H
  refine WP.skip<|WP.seq<|WP.block<|WP.seq<|rg 5 0<|mv0 rfl rfl<|gr H fun g492 H=>Dv.ixr rfl trivial rfl rfl Tryz.underlying38 Tryz.underlying9 c9 g492.1 g492.2<|ldR rfl trivial rfl sc9 rfl<|as0 rfl rfl<|as0 rfl rfl<|.fin<|WP.seq<|rg 23 0<|mv0 rfl rfl<|el H fun t493 h494 H=>cl rfl cal54 rfl (name_Event.c h494)<|un0 rfl rfl (run_not _)<|mv0 rfl rfl ?_
  cases c495:!t493
  rotate_left
  ·
   have H:=H.ct c495
   refine sk rfl rfl<|sk rfl rfl<|sk rfl rfl<|sk rfl rfl<|pt0 rfl rfl rfl<|mv0 rfl rfl<|sk rfl rfl<|sk rfl rfl<|sk rfl rfl<|sku rfl rfl<|sku rfl rfl<|sku rfl rfl<|sku rfl rfl<|sku rfl rfl<|sku rfl rfl<|sku rfl rfl<|sku rfl rfl<|sk rfl rfl<|pt0 rfl rfl rfl<|.fin<|WP.cond rfl (fun _=>?_) nofun
   refine WP.seq<|rg 1 0<|as0 rfl rfl<|.fin<|WP.exit ?_
   have H:=H.out
   exact jn (false,x490,decide (x490 < (a0.fParents.length:Int))) H
  have H:=H.cf c495
  refine mvg rfl rfl rfl<|fb rfl (gg rfl) rfl fa40_0<|ld 0 rfl (gg rfl) rfl sc9 rfl rfl<|bng rfl rfl rfl rfl run_seq<|pf0 rfl rfl rfl<|mv0 rfl rfl ?_
  cases c497:decide ((strK.at a0.fParents x490) = a0.fID)
  rotate_left
  ·
   have H:=H.ct c497
   refine sk rfl rfl<|sk rfl rfl<|sk rfl rfl<|sku rfl rfl<|sku rfl rfl<|sku rfl rfl<|sku rfl rfl<|sku rfl rfl<|sku rfl rfl<|sku rfl rfl<|sku rfl rfl<|sk rfl rfl<|pt0 rfl rfl rfl<|.fin<|WP.cond rfl (fun _=>?_) nofun
   refine WP.seq<|rg 1 0<|as0 rfl rfl<|.fin<|WP.exit ?_
   have H:=H.out
   exact jn (false,x490,decide (x490 < (a0.fParents.length:Int))) H
  have H:=H.cf c497
  refine mvg rfl rfl rfl<|bng rfl rfl rfl rfl run_gt<|mvg rfl rfl rfl ?_
  cases c499:decide (0 < x490)
  ·
   have H:=H.cf c499
   refine sk rfl rfl<|sk rfl rfl<|sk rfl rfl<|sk rfl rfl<|sk rfl rfl<|sk rfl rfl<|sk rfl rfl<|sk rfl rfl<|pfg rfl rfl rfl rfl<|pf0 rfl rfl rfl<|.fin<|WP.cond rfl nofun (fun _=>?_)
   exact WP.skip<|rg 2 0<|bn0 rfl rfl rfl run_add<|mv0 rfl rfl<|.fin<|bk j503 (w64 (x490 + 1)) H
  have H:=H.ct c499
  refine mvg rfl rfl rfl<|fb rfl (gg rfl) rfl fa40_2<|ld 0 rfl (gg rfl) rfl sc38 rfl rfl<|mvg rfl rfl rfl<|bng rfl rfl rfl rfl run_sub<|gr H fun g500 H=>Dv.ixr rfl (gg rfl) rfl rfl Tryz.underlying38 Tryz.underlying9 c9 g500.1 g500.2<|ldR rfl (gg rfl) rfl sc9 rfl<|bng rfl rfl rfl rfl run_sle<|ptg rfl rfl rfl rfl<|pf0 rfl rfl rfl<|.fin<|cd H rfl (fun _ H=>?_) (fun _ H=>?_)
  rotate_left
  ·
   exact WP.skip<|rg 2 0<|bn0 rfl rfl rfl run_add<|mv0 rfl rfl<|.fin<|bk j503 (w64 (x490 + 1)) H
  refine WP.seq<|rg 1 0<|as0 rfl rfl<|.fin<|WP.exit ?_
  have H:=H.out
  exact jn (false,x490,decide (x490 < (a0.fParents.length:Int))) H
 have H:=H.ct c464
 refine fb rfl (gg rfl) rfl fa40_3<|ld 0 rfl (gg rfl) rfl sc9 rfl rfl<|el H fun t465 h466 H=>Dv.call rfl (gg rfl) cal54 rfl (name_Event.c h466)<|ung rfl rfl rfl (run_not _)<|mvg rfl rfl rfl ?_
 cases c467:!t465
 rotate_left
 ·
  have H:=H.ct c467
  refine sk rfl rfl<|sk rfl rfl<|sk rfl rfl<|sk rfl rfl<|sk rfl rfl<|ptg rfl rfl rfl rfl<|mvg rfl rfl rfl<|sk rfl rfl<|sk rfl rfl<|sk rfl rfl<|ptg rfl rfl rfl rfl<|pt0 rfl rfl rfl<|.fin<|WP.cond rfl (fun _=>?_) nofun
  refine WP.seq<|rg 1 0<|as0 rfl rfl<|.fin ?_
  cases H.out; exact r1 i2 rfl (.cons (res_tmp rfl) .nil)
 have H:=H.cf c467
 refine fb rfl (gg rfl) rfl fa40_3<|ld 0 rfl (gg rfl) rfl sc9 rfl rfl<|fb rfl (gg rfl) rfl fa40_0<|ld 0 rfl (gg rfl) rfl sc9 rfl rfl<|bng rfl rfl rfl rfl run_seq<|pfg rfl rfl rfl rfl<|mvg rfl rfl rfl ?_
 cases c469:decide (a0.fThread = a0.fID)
 rotate_left
 ·
  have H:=H.ct c469
  refine sk rfl rfl<|sk rfl rfl<|sk rfl rfl<|ptg rfl rfl rfl rfl<|pt0 rfl rfl rfl<|.fin<|WP.cond rfl (fun _=>?_) nofun
  refine WP.seq<|rg 1 0<|as0 rfl rfl<|.fin ?_
  cases H.out; exact r1 i2 rfl (.cons (res_tmp rfl) .nil)
 have H:=H.cf c469
 refine fb rfl (gg rfl) rfl fa40_5<|ld 0 rfl (gg rfl) rfl sc3 rfl rfl<|bng rfl rfl rfl rfl run_ne<|pfg rfl rfl rfl rfl<|pt0 rfl rfl rfl<|.fin<|cd H rfl (fun _ H=>?_) (fun _ H=>?_)
 ·
  refine WP.seq<|rg 1 0<|as0 rfl rfl<|.fin ?_
  cases H.out; exact r1 i2 rfl (.cons (res_tmp rfl) .nil)
 refine WP.skip<|WP.seq<|rg 1 0<|as0 rfl rfl<|.fin<|WP.seq<|WP.label<|WP.seqn H id (fun p472:Bool×Int×Bool=>[(0,agg (Event.enc a0)),(1,eq (.pointer (some ⟨b446,0,none⟩))),(2,vB false),(3,vB p472.1),(37,vB (decide (2 < a0.fDoes))),(58,vB (a0.fDoes != 0)),(60,sl strK a0.fParents),(61,vI (a0.fParents.length:Int)),(62,vI p472.2.1),(63,vB p472.2.2)]) (fun p472:Bool×Int×Bool=>[blk b446 40 (Event.enc a0)]++F) (fun p472 H=>?_) (fun H=>?_)
 ·
  refine WP.seq<|rg 2 0<|mv0 rfl rfl<|as0 rfl rfl<|.fin ?_
  cases H.out; exact r1 i2 rfl (.cons (res_tmp rfl) .nil)
 refine WP.seq<|rg 4 0<|fb rfl trivial rfl fa40_2<|ld 0 rfl trivial rfl sc38 rfl rfl<|Dv.lenl rfl trivial rfl Tryz.underlying38<|mv0 rfl rfl<|.fin<|WP.block<|wg (sg 1 [0] 0) fun _ _=>?_
 refine lp (fun j_ (p487:Int)=>dag_May.l0 k a0 j_ p487) 0 H (fun p487=>[(0,agg (Event.enc a0)),(1,eq (.pointer (some ⟨b446,0,none⟩))),(2,vB false),(3,vB true),(37,vB (decide (2 < a0.fDoes))),(58,vB (a0.fDoes != 0)),(60,sl strK a0.fParents),(61,vI (a0.fParents.length:Int)),(62,vI p487)]) (fun p487=>[blk b446 40 (Event.enc a0)]++F) ?_
 rintro j_ x473 H
 rcases j_ with _ | j486
 ·
  exact (Gets.no H).elim
 replace H:Gets (dag_May.l0 k a0 (j486 + 1) x473) _:=H
 rw [dag_May.l0] at H
 refine WP.seq<|rg 1 0<|bn0 rfl rfl rfl run_lt<|.fin<|WP.seq<|cd H rfl (fun _ H=>?_) (fun _ H=>?_)
 rotate_left
 ·
  refine WP.exit ?_
  have H:=H.out
  exact jn (true,x473,decide (x473 < (a0.fParents.length:Int))) H
 refine WP.skip<|WP.seq<|WP.block<|WP.seq<|rg 5 0<|mv0 rfl rfl<|gr H fun g475 H=>Dv.ixr rfl trivial rfl rfl Tryz.underlying38 Tryz.underlying9 c9 g475.1 g475.2<|ldR rfl trivial rfl sc9 rfl<|as0 rfl rfl<|as0 rfl rfl<|.fin<|WP.seq<|rg 23 0<|mv0 rfl rfl<|el H fun t476 h477 H=>cl rfl cal54 rfl (name_Event.c h477)<|un0 rfl rfl (run_not _)<|mv0 rfl rfl ?_
 cases c478:!t476
 rotate_left
 ·
  have H:=H.ct c478
  refine sk rfl rfl<|sk rfl rfl<|sk rfl rfl<|sk rfl rfl<|pt0 rfl rfl rfl<|mv0 rfl rfl<|sk rfl rfl<|sk rfl rfl<|sk rfl rfl<|sku rfl rfl<|sku rfl rfl<|sku rfl rfl<|sku rfl rfl<|sku rfl rfl<|sku rfl rfl<|sku rfl rfl<|sku rfl rfl<|sk rfl rfl<|pt0 rfl rfl rfl<|.fin<|WP.cond rfl (fun _=>?_) nofun
  refine WP.seq<|rg 1 0<|as0 rfl rfl<|.fin<|WP.exit ?_
  have H:=H.out
  exact jn (false,x473,decide (x473 < (a0.fParents.length:Int))) H
 have H:=H.cf c478
 refine mvg rfl rfl rfl<|fb rfl (gg rfl) rfl fa40_0<|ld 0 rfl (gg rfl) rfl sc9 rfl rfl<|bng rfl rfl rfl rfl run_seq<|pf0 rfl rfl rfl<|mv0 rfl rfl ?_
 cases c480:decide ((strK.at a0.fParents x473) = a0.fID)
 rotate_left
 ·
  have H:=H.ct c480
  refine sk rfl rfl<|sk rfl rfl<|sk rfl rfl<|sku rfl rfl<|sku rfl rfl<|sku rfl rfl<|sku rfl rfl<|sku rfl rfl<|sku rfl rfl<|sku rfl rfl<|sku rfl rfl<|sk rfl rfl<|pt0 rfl rfl rfl<|.fin<|WP.cond rfl (fun _=>?_) nofun
  refine WP.seq<|rg 1 0<|as0 rfl rfl<|.fin<|WP.exit ?_
  have H:=H.out
  exact jn (false,x473,decide (x473 < (a0.fParents.length:Int))) H
 have H:=H.cf c480
 refine mvg rfl rfl rfl<|bng rfl rfl rfl rfl run_gt<|mvg rfl rfl rfl ?_
 cases c482:decide (0 < x473)
 ·
  have H:=H.cf c482
  refine sk rfl rfl<|sk rfl rfl<|sk rfl rfl<|sk rfl rfl<|sk rfl rfl<|sk rfl rfl<|sk rfl rfl<|sk rfl rfl<|pfg rfl rfl rfl rfl<|pf0 rfl rfl rfl<|.fin<|WP.cond rfl nofun (fun _=>?_)
  exact WP.skip<|rg 2 0<|bn0 rfl rfl rfl run_add<|mv0 rfl rfl<|.fin<|bk j486 (w64 (x473 + 1)) H
 have H:=H.ct c482
 refine mvg rfl rfl rfl<|fb rfl (gg rfl) rfl fa40_2<|ld 0 rfl (gg rfl) rfl sc38 rfl rfl<|mvg rfl rfl rfl<|bng rfl rfl rfl rfl run_sub<|gr H fun g483 H=>Dv.ixr rfl (gg rfl) rfl rfl Tryz.underlying38 Tryz.underlying9 c9 g483.1 g483.2<|ldR rfl (gg rfl) rfl sc9 rfl<|bng rfl rfl rfl rfl run_sle<|ptg rfl rfl rfl rfl<|pf0 rfl rfl rfl<|.fin<|cd H rfl (fun _ H=>?_) (fun _ H=>?_)
 rotate_left
 ·
  exact WP.skip<|rg 2 0<|bn0 rfl rfl rfl run_add<|mv0 rfl rfl<|.fin<|bk j486 (w64 (x473 + 1)) H
 refine WP.seq<|rg 1 0<|as0 rfl rfl<|.fin<|WP.exit ?_
 have H:=H.out
 exact jn (false,x473,decide (x473 < (a0.fParents.length:Int))) H
theorem dag_Dag_Has.c {a0:DDag} {a1:ByteArray} {v0_0:OV} {b0_:Nat} {r:Bool} (h:dag_Dag_Has.f a0 a1 = some r):Tr Tryz.prog 40 [eq (.pointer (some ⟨b0_,0,none⟩)),vS a1] [blk b0_ 82 [vS a0.froom,eq v0_0.1],mpo Value.string DNode.O v0_0.1 a0.fnodes] (γ:=Unit) (fun _=>True) (fun g=>vB r) (fun g=>[blk b0_ 82 [vS a0.froom,eq v0_0.1],mpo Value.string DNode.O v0_0.1 a0.fnodes]):=by
 unfold dag_Dag_Has.f at h
 refine Tr.body Tryz.func40 (c:=_) rfl Tryz.ntmps40 (Nat.le_of_ble_eq_true rfl) fun R0 F=>?_
 replace h:=Gets.of h
 have H:=h
 clear h
 refine WP.seq<|rg 1 0<|as0 rfl rfl<|.fin<|WP.seq<|rg 8 0<|mv0 rfl rfl<|Dv.nilp rfl trivial rfl<|fb rfl trivial rfl fa82_1<|ld 0 rfl trivial rfl sc80 rfl rfl<|mv0 rfl rfl<|vg (mpo_opn 1 rfl) fun z505 h506=>?_
 refine Dv.mlv nilP rfl trivial rfl (mem_at 0 rfl) rfl Tryz.underlying80 (keyOk_str Tryz.underlying9) z83 (fun _=>rfl)<|Dv.pm1 (pm_nil h506 rfl) rfl trivial rfl rfl Tryz.underlying83<|as0 rfl rfl<|.fin<|wg (mpo_shut h506 rfl (pm 3 [0,1,2])) fun _ _=>?_
 cases H.out; exact rt i2 rfl () 2 [1,0] 0 (.cons (res_tmp rfl) .nil)
theorem dag_Dag_Add_1.c {a0:ByteArray} {cb0_ cd0_:Nat} {cq0_ cv0_0:OV} {ch0_:cq0_.1 = .pointer (some ⟨cd0_,0,none⟩)} {c0:DDag} {r:Bool} (h:dag_Dag_Add_1.f a0 c0 = some r):Tr Tryz.prog 41 [vS a0,eq (.pointer (some ⟨cb0_,0,none⟩))] [blk cb0_ 59 [eq cq0_.1],blk cd0_ 82 [vS c0.froom,eq cv0_0.1],mpo Value.string DNode.O cv0_0.1 c0.fnodes] (γ:=Unit) (fun _=>True) (fun g=>vB r) (fun g=>[blk cb0_ 59 [eq cq0_.1],blk cd0_ 82 [vS c0.froom,eq cv0_0.1],mpo Value.string DNode.O cv0_0.1 c0.fnodes]):=by
 unfold dag_Dag_Add_1.f at h
 refine Tr.body Tryz.func41 (c:=_) rfl Tryz.ntmps41 (Nat.le_of_ble_eq_true rfl) fun R0 F=>?_
 replace h:=Gets.of h
 have H:=h
 clear h
 refine WP.seq<|rg 1 0<|as0 rfl rfl<|.fin<|WP.seq<|rg 5 0<|ld 0 rfl trivial rfl sc59 rfl rfl<|mv0 rfl rfl<|el H fun t507 h508 H=>cll 3 [1,2,0] cal40 (Tr.weak (dag_Dag_Has.c h508 (b0_:=cd0_) (v0_0:=cv0_0)) (.cons (wk_ptr ch0_) (.cons wk_id .nil))) ?_
 refine un0 rfl rfl (run_not _)<|as0 rfl rfl<|.fin ?_
 cases H.out; exact rt i2 rfl () 3 [0,1,2] 0 (.cons (res_tmp rfl) .nil)
theorem slices_Clone_string.c {a0:List ByteArray} {r:List ByteArray} (h:slices_Clone_string.f a0 = some r):Tr Tryz.prog 57 [sl strK a0] [] (γ:=OV) (fun _=>True) (fun g=>eq g.1) (fun g=>[own strK g.1 r]):=by
 unfold slices_Clone_string.f at h
 obtain ⟨h0,h5⟩:=(Gets.of h).grd
 obtain rfl:=Gets.out h5
 clear h h5
 refine (Tr.body Tryz.func57 (c:=_) rfl Tryz.ntmps57 (Nat.le_of_ble_eq_true rfl) fun R0 F=>?_)
 refine WP.seq<|WP.reg [(0,false)] (by kernel_rfl)<|as0 rfl rfl<|.fin<|WP.seq<|WP.seq<|WP.reg [(0,false),(1,true)] (by kernel_rfl)<|mv0 rfl rfl<|Dv.snil rfl trivial rfl rfl Tryz.underlying38 nofun (fun b hb=>?_)
 refine .fin<|WP.cond rfl (fun c0=>?_) (fun c0=>?_)
 ·
  obtain rfl:=hb c0
  refine WP.seq<|WP.reg [(0,false)] (by kernel_rfl)<|as0 rfl rfl<|.fin<|wg (st_nil strK none) fun _ _=>?_
  exact rt i2 rfl nilV 1 [0] 0 (.cons (res_tmp rfl) .nil)
 refine WP.skip<|WP.seq<|WP.reg [(0,true),(1,false),(2,true),(3,false)] (by kernel_rfl)<|Dv.lit0 strK rfl trivial Tryz.underlying38 Tryz.underlying9 c9 z9 nofun (fun v1=>?_)
 refine mv0 rfl rfl<|Dv.appx (Kd:=strK) (xs:=[]) (v:=v1.1) (jj:=0) (ys:=a0) (fun v2:OV=>[own strK v2.1 a0]++F) rfl trivial rfl rfl rfl src_sl Tryz.underlying38 (.inr ⟨_,Tryz.underlying38⟩) inf9 rfl (by decide) (by simpa using h0) rfl nofun (fun v2=>?_)
 exact as0 rfl rfl<|.fin<|rt i2 rfl v2 1 [0] 0 (.cons (res_tmp rfl) .nil)
theorem dag_own.c {a0:Event} {r:Event} (h:dag_own.f a0 = some r):Pt Tryz.prog 42 [agg (Event.enc a0)] (agg (Event.enc r)):=by
 unfold dag_own.f at h
 refine pb Tryz.func42 Tryz.ntmps42 h fun R0 F H=>?_
 refine WP.seq<|rg 2 3<|Dv.box rfl trivial rfl cA nofun fun b509=>al rfl trivial zc40 nofun fun b510=>.fin<|WP.seq<|rg 5 20<|fb rfl trivial rfl fa40_2<|ld 1 rfl trivial rfl sc38 rfl rfl<|el H fun t511 h512 H=>cx 2 [0,1] cal57 (slices_Clone_string.c h512) nofun fun g513 _=>?_
 refine fb rfl trivial rfl fa40_2<|sx 2 rfl trivial rfl rfl (cells_one one_ov) sz38 rfl rfl rfl nofun ?_
 refine .fin<|WP.seq<|rg 2 2<|lds 2 rfl trivial rfl sg40 rfl rfl<|sx 1 rfl trivial rfl rfl cA sz40 rfl rfl rfl nofun ?_
 refine .fin<|WP.gh (gh_frz (E':=[(2,eq (.pointer (some ⟨b510,0,none⟩)))]) (l':=[blk b510 40 [vS a0.fID,vS a0.fRoom,sl strK t511,vS a0.fThread,vS a0.fUser,vI a0.fDoes],blk b509 40 [vS a0.fID,vS a0.fRoom,sl strK t511,vS a0.fThread,vS a0.fUser,vI a0.fDoes]]++F) 0 rfl (cve_cons rfl cv_id cve_nil) (all2_app (.cons (cva_blk (.cons cv_id (.cons cv_id (.cons cv_eq (.cons cv_id (.cons cv_id (.cons cv_id .nil))))))) (.cons (cva_blk (.cons cv_id (.cons cv_id (.cons cv_eq (.cons cv_id (.cons cv_id (.cons cv_id .nil))))))) .nil)) fun _=>cva_id)) (fun _ _=>?_)
 cases H.out; exact r2 i2 rfl (.cons (res_cells rfl Tryz.underlying40 rfl c40 (mem_at 0 rfl) rfl) .nil)
theorem dag_Dag_Add.c {k:Nat} {a0:DDag} {a1:Event} {p0_:OV} {r:Int×DDag} (h:dag_Dag_Add.f k a0 a1 = some r):Tr Tryz.prog 25 [eq p0_.1,agg (Event.enc a1)] [DDag.O p0_ a0] (γ:=Unit) (fun _=>True) (fun g=>vI r.1) (fun g=>[DDag.O p0_ r.2]):=by
 unfold dag_Dag_Add.f at h
 refine Tr.body Tryz.func25 (c:=_) rfl Tryz.ntmps25 (Nat.le_of_ble_eq_true rfl) fun R0 F=>?_
 replace h:=Gets.of h
 have H:=h
 clear h
 refine WP.seq<|rg 3 3<|Dv.box rfl trivial rfl (cells_one one_ov) nofun fun b514=>Dv.box rfl trivial rfl cA nofun fun b515=>as0 rfl rfl<|.fin<|WP.seq<|WP.block<|WP.seq<|wg (DDag.opn 2 rfl) fun g516 h517=>?_
 refine dg Tryz.checked.mixed 13 0<|lds 2 rfl trivial rfl sg40 rfl rfl<|el H fun t518 h519 H=>cl rfl cal39 rfl (dag_May.c h519)<|un0 rfl rfl (run_not _)<|mv0 rfl rfl ?_
 cases c520:!t518
 rotate_left
 ·
  have H:=H.ct c520
  refine sk rfl rfl<|sk rfl rfl<|sk rfl rfl<|sk rfl rfl<|sk rfl rfl<|sk rfl rfl<|sk rfl rfl<|pt0 rfl rfl rfl<|as0 rfl rfl<|.fin<|WP.cond rfl (fun _=>?_) nofun
  refine WP.seq<|rg 1 0<|as0 rfl rfl<|.fin<|wg (DDag.shut (p:=p0_) (m:=a0) (g516.1,g516.2) h517 (pm 4 [0,1,2,3])) fun _ _=>?_
  cases H.out; exact rt i2 rfl () 3 [1,2,0] 2 (.cons (res_tmp rfl) .nil)
 have H:=H.cf c520
 refine fb rfl (gg rfl) rfl fa40_1<|ld 2 rfl (gg rfl) rfl sc9 rfl rfl<|ld 3 rfl (gg rfl) rfl sc59 rfl rfl<|Dv.nilpp h517 rfl (gg rfl) rfl<|fp h517 rfl (gg rfl) rfl fa82_0<|ld 0 rfl (gg rfl) rfl sc9 rfl rfl<|bng rfl rfl rfl rfl run_sne<|pf0 rfl rfl rfl<|as0 rfl rfl<|.fin<|cd H rfl (fun _ H=>?_) (fun _ H=>?_)
 ·
  refine WP.seq<|rg 1 0<|as0 rfl rfl<|.fin<|wg (DDag.shut (p:=p0_) (m:=a0) (g516.1,g516.2) h517 (pm 4 [0,1,2,3])) fun _ _=>?_
  cases H.out; exact rt i2 rfl () 3 [1,2,0] 2 (.cons (res_tmp rfl) .nil)
 refine WP.seq<|rg 5 0<|ld 3 rfl trivial rfl sc59 rfl rfl<|fb rfl trivial rfl fa40_0<|ld 2 rfl trivial rfl sc9 rfl rfl<|el H fun t523 h524 H=>cll 4 [0,1,2,3] cal40 (Tr.weak (dag_Dag_Has.c h524 (b0_:=g516.1) (v0_0:=g516.2)) (.cons (wk_ptr h517) (.cons wk_id .nil))) ?_
 refine as0 rfl rfl<|.fin<|cd H rfl (fun _ H=>?_) (fun _ H=>?_)
 ·
  refine WP.seq<|rg 1 0<|as0 rfl rfl<|.fin<|wg (DDag.shut (p:=p0_) (m:=a0) (g516.1,g516.2) h517 (pm 4 [0,1,2,3])) fun _ _=>?_
  cases H.out; exact rt i2 rfl () 3 [1,2,0] 2 (.cons (res_tmp rfl) .nil)
 refine WP.seq<|rg 5 0<|fb rfl trivial rfl fa40_2<|ld 2 rfl trivial rfl sc38 rfl rfl<|Dv.mkx (Q:=fqQ_string_bool (fun a0_=>dag_Dag_Add_1.f a0_ a0)) (L:=[blk b514 59 [eq p0_.1],blk g516.1 82 [vS a0.froom,eq g516.2.1],mpo Value.string DNode.O g516.2.1 a0.fnodes]) cal41 (by rintro _ _ ⟨a0_,r_,h_,rfl,rfl⟩; exact dag_Dag_Add_1.c h_ (cb0_:=b514) (cq0_:=p0_) (cd0_:=g516.1) (ch0_:=h517) (cv0_0:=g516.2)) rfl trivial rfl rfl<|el H fun t526 h527 H=>cll 4 [3,0,1,2] cal14 (Tr.unpkr (A:=[]) (L:=[blk b514 59 [eq p0_.1],blk g516.1 82 [vS a0.froom,eq g516.2.1],mpo Value.string DNode.O g516.2.1 a0.fnodes]) (slices_ContainsFunc_string_x.c h527 (X1_:=(pk [blk b514 59 [eq p0_.1],blk g516.1 82 [vS a0.froom,eq g516.2.1],mpo Value.string DNode.O g516.2.1 a0.fnodes])))) ?_
 refine as0 rfl rfl<|.fin<|cd H rfl (fun _ H=>?_) (fun _ H=>?_)
 ·
  refine WP.seq<|rg 1 0<|as0 rfl rfl<|.fin<|wg (DDag.shut (p:=p0_) (m:=a0) (g516.1,g516.2) h517 (pm 4 [0,1,2,3])) fun _ _=>?_
  cases H.out; exact rt i2 rfl () 3 [1,2,0] 2 (.cons (res_tmp rfl) .nil)
 refine WP.skip<|WP.seqr H id (fun p529:Unit=>[(0,eq p0_.1),(1,agg (Event.enc a1)),(2,eq (.pointer (some ⟨b514,0,none⟩))),(3,eq (.pointer (some ⟨b515,0,none⟩))),(4,vI 0),(9,vB (!decide (a1.fRoom = a0.froom))),(22,vB t523),(27,vB t526),(34,vB (!decide (a1.fThread = (⟨#[]⟩:ByteArray))))]) (fun p529:Unit=>[blk b515 40 (Event.enc a1),blk b514 59 [eq p0_.1],DDag.O p0_ a0]++F) (fun p529 H=>?_) (fun H=>?_)
 rotate_left
 ·
  refine WP.seq<|rg 3 0<|fb rfl trivial rfl fa40_3<|ld 2 rfl trivial rfl sc9 rfl rfl<|bn0 rfl rfl rfl run_sne<|.fin<|cd H rfl (fun _ H=>?_) (fun _ H=>?_)
  rotate_left
  ·
   refine WP.skip ?_
   have H:=H.out
   refine ng (DDag.shut (p:=p0_) (m:=a0) (g516.1,g516.2) h517 (pm 4 [0,1,2,3])) fun _ _=>?_
   refine ng (sg 3 [1,2,0] 0) fun _ _=>?_
   exact jn () H
  refine WP.seq<|wg (mpo_opn 1 rfl) fun z554 h555=>?_
  refine dg Tryz.checked.mixed 8 0<|ld 4 rfl trivial rfl sc59 rfl rfl<|Dv.nilpp h517 rfl trivial rfl<|fp h517 rfl trivial rfl fa82_1<|ld 2 rfl trivial rfl sc80 rfl rfl<|fb rfl trivial rfl fa40_3<|ld 3 rfl trivial rfl sc9 rfl rfl<|Dv.mlv nilP rfl trivial rfl (mem_at 0 rfl) rfl Tryz.underlying80 (keyOk_str Tryz.underlying9) z83 (fun _=>rfl)<|as0 rfl rfl<|.fin<|WP.seq<|WP.seq<|rg 2 0<|mv0 rfl rfl<|Dv.pm0 (pm_nil h555 rfl) rfl trivial rfl rfl Tryz.underlying83<|.fin<|cd H rfl (fun _ H=>?_) (fun _ H=>?_)
  ·
   refine WP.seq<|rg 1 0<|as0 rfl rfl<|.fin<|wg (mpo_shut h555 rfl (pm 5 [0,1,2,3,4])) fun _ _=>?_
   refine wg (DDag.shut (p:=p0_) (m:=a0) (g516.1,g516.2) h517 (pm 4 [1,0,2,3])) fun _ _=>?_
   have H:=H.outr
   cases H.out; exact rt i2 rfl () 3 [1,2,0] 2 (.cons (res_tmp rfl) .nil)
  refine WP.skip<|WP.seq<|rg 14 0<|mv0 rfl rfl<|gr H fun g557 H=>vg (mpo_foc h555 rfl g557 (pm 5 [1,0,2,3,4])) fun _ _=>?_
  refine Dv.nilA DNode.nn rfl trivial rfl (mem_at 0 rfl)<|vg (DNode.opn 0 rfl) fun g558 h559=>?_
  refine fp h559 rfl trivial rfl fa85_0<|fb rfl trivial rfl fa40_3<|ld 0 rfl trivial rfl sc9 rfl rfl<|bn0 rfl rfl rfl run_sne<|mv0 rfl rfl ?_
  cases c560:!decide (((((mget a0.fnodes a1.fThread).getD default).fe).fThread) = (⟨#[]⟩:ByteArray))
  rotate_left
  ·
   have H:=H.ct c560
   refine sk rfl rfl<|sk rfl rfl<|sk rfl rfl<|sk rfl rfl<|sk rfl rfl<|sk rfl rfl<|pt0 rfl rfl rfl<|.fin<|WP.cond rfl (fun _=>?_) nofun
   refine WP.seq<|rg 1 0<|as0 rfl rfl<|.fin<|wg (DNode.shut (p:=((mget (zipK a0.fnodes z554) a1.fThread).getD nilP)) (m:=(mget a0.fnodes a1.fThread).getD default) g558 h559 (pm 6 [0,1,2,3,4,5])) fun _ _=>?_
   refine wg (mpo_unf0 h555 rfl g557 (pm 6 [0,1,2,3,4,5])) fun _ _=>?_
   refine wg (mpo_shut h555 rfl (pm 5 [1,0,2,3,4])) fun _ _=>?_
   refine wg (DDag.shut (p:=p0_) (m:=a0) (g516.1,g516.2) h517 (pm 4 [1,0,2,3])) fun _ _=>?_
   have H:=H.outr
   cases H.out; exact rt i2 rfl () 3 [1,2,0] 2 (.cons (res_tmp rfl) .nil)
  have H:=H.cf c560
  refine mvg rfl rfl rfl<|Dv.nilpp h559 rfl (gg rfl) rfl<|fp h559 rfl (gg rfl) rfl fa85_0<|fb rfl (gg rfl) rfl fa40_5<|ld 0 rfl (gg rfl) rfl sc3 rfl rfl<|bng rfl rfl rfl rfl run_ne<|pf0 rfl rfl rfl<|.fin<|cd H rfl (fun _ H=>?_) (fun _ H=>?_)
  rotate_left
  ·
   refine WP.skip ?_
   have H:=H.out
   refine ng (DNode.shut (p:=((mget (zipK a0.fnodes z554) a1.fThread).getD nilP)) (m:=(mget a0.fnodes a1.fThread).getD default) g558 h559 (pm 6 [0,1,2,3,4,5])) fun _ _=>?_
   refine ng (mpo_unf0 h555 rfl g557 (pm 6 [0,1,2,3,4,5])) fun _ _=>?_
   refine ng (mpo_shut h555 rfl (pm 5 [1,0,2,3,4])) fun _ _=>?_
   refine ng (DDag.shut (p:=p0_) (m:=a0) (g516.1,g516.2) h517 (pm 4 [1,0,2,3])) fun _ _=>?_
   refine ng (sg 3 [1,2,0] 0) fun _ _=>?_
   exact jn () H
  refine WP.seq<|rg 1 0<|as0 rfl rfl<|.fin<|wg (DNode.shut (p:=((mget (zipK a0.fnodes z554) a1.fThread).getD nilP)) (m:=(mget a0.fnodes a1.fThread).getD default) g558 h559 (pm 6 [0,1,2,3,4,5])) fun _ _=>?_
  refine wg (mpo_unf0 h555 rfl g557 (pm 6 [0,1,2,3,4,5])) fun _ _=>?_
  refine wg (mpo_shut h555 rfl (pm 5 [1,0,2,3,4])) fun _ _=>?_
  refine wg (DDag.shut (p:=p0_) (m:=a0) (g516.1,g516.2) h517 (pm 4 [1,0,2,3])) fun _ _=>?_
  have H:=H.outr
  cases H.out; exact rt i2 rfl () 3 [1,2,0] 2 (.cons (res_tmp rfl) .nil)
 refine WP.seq<|rg 5 8<|lds 0 rfl trivial rfl sg40 rfl rfl<|el H fun t530 h531 H=>cl rfl cal42 rfl (dag_own.c h531)<|Dv.bld (qs:=[vS t530.fID,vS t530.fRoom,sl strK t530.fParents,vS t530.fThread,vS t530.fUser,vI t530.fDoes,vI 0,vB false]) (css:=[Event.enc t530]) rfl trivial Tryz.underlying85 pl85 z85 rfl ⟨(cells_agg (Event.K.one _)),trivial⟩ rfl rfl<|Dv.box rfl trivial rfl cA nofun fun b532=>as0 rfl rfl<|.fin<|WP.seqn H id (fun p533:Int×Bool×Int×DDag=>[(0,eq p0_.1),(1,agg (Event.enc a1)),(2,eq (.pointer (some ⟨b514,0,none⟩))),(3,eq (.pointer (some ⟨b515,0,none⟩))),(4,vI 0),(6,eq (.pointer (some ⟨b532,0,none⟩))),(9,vB (!decide (a1.fRoom = a0.froom))),(22,vB t523),(27,vB t526),(34,vB (!decide (a1.fThread = (⟨#[]⟩:ByteArray)))),(63,sl strK a1.fParents),(64,vI (a1.fParents.length:Int)),(65,vI p533.1),(66,vB p533.2.1)]) (fun p533:Int×Bool×Int×DDag=>[blk b532 85 [vS t530.fID,vS t530.fRoom,sl strK t530.fParents,vS t530.fThread,vS t530.fUser,vI t530.fDoes,vI p533.2.2.1,vB false],blk b515 40 (Event.enc a1),blk b514 59 [eq p0_.1],DDag.O p0_ p533.2.2.2]++F) (fun p533 H=>?_) (fun H=>?_)
 ·
  refine WP.seq<|wg (DDag.opn 3 rfl) fun g534 h535=>?_
  refine wg (DNode.shut (p:=(⟨.pointer (some ⟨b532,0,none⟩),rfl⟩:OV)) (m:=(⟨t530,p533.2.2.1,false⟩:DNode)) b532 rfl (pm 5 [2,0,1,3,4])) fun _ _=>?_
  refine wg (mpo_opn 2 rfl) fun z536 h537=>?_
  refine dg Tryz.checked.mixed 8 128<|ld 5 rfl trivial rfl sc59 rfl rfl<|Dv.nilpp h535 rfl trivial rfl<|fp h535 rfl trivial rfl fa82_1<|ld 3 rfl trivial rfl sc80 rfl rfl<|fb rfl trivial rfl fa40_0<|ld 4 rfl trivial rfl sc9 rfl rfl<|mv0 rfl rfl<|Dv.mup (vp:=fun p:OV=>eq p.1) (jj:=0) (⟨.pointer (some ⟨b532,0,none⟩),rfl⟩:OV) rfl trivial rfl rfl rfl rfl Tryz.underlying80 (keyOk_str Tryz.underlying9) (fun _=>pend_bits (by kernel_rfl))<|.fin<|WP.seq<|rg 1 0<|as0 rfl rfl<|.fin<|wg (mpo_add DNode.nn h537 rfl (pm 6 [0,1,2,3,4,5])) fun _ _=>?_
  refine wg (DDag.shut (p:=p0_) (m:=(⟨p533.2.2.2.froom,mput p533.2.2.2.fnodes a1.fID (⟨t530,p533.2.2.1,false⟩:DNode)⟩:DDag)) (g534.1,g534.2) h535 (pm 4 [1,0,2,3])) fun _ _=>?_
  cases H.out; exact rt i2 rfl () 3 [1,2,0] 2 (.cons (res_tmp rfl) .nil)
 refine WP.seq<|rg 4 0<|fb rfl trivial rfl fa40_2<|ld 1 rfl trivial rfl sc38 rfl rfl<|Dv.lenl rfl trivial rfl Tryz.underlying38<|mv0 rfl rfl<|.fin<|WP.block<|wg (sg 4 [0,1,2,3] 0) fun _ _=>?_
 refine lp (fun j_ (p552:Int×Int×DDag)=>dag_Dag_Add.l0 k a1 j_ p552.1 p552.2.1 p552.2.2) (0,0,a0) H (fun p552=>[(0,eq p0_.1),(1,agg (Event.enc a1)),(2,eq (.pointer (some ⟨b514,0,none⟩))),(3,eq (.pointer (some ⟨b515,0,none⟩))),(4,vI 0),(6,eq (.pointer (some ⟨b532,0,none⟩))),(9,vB (!decide (a1.fRoom = a0.froom))),(22,vB t523),(27,vB t526),(34,vB (!decide (a1.fThread = (⟨#[]⟩:ByteArray)))),(63,sl strK a1.fParents),(64,vI (a1.fParents.length:Int)),(65,vI p552.1)]) (fun p552=>[blk b532 85 [vS t530.fID,vS t530.fRoom,sl strK t530.fParents,vS t530.fThread,vS t530.fUser,vI t530.fDoes,vI p552.2.1,vB false],blk b515 40 (Event.enc a1),blk b514 59 [eq p0_.1],DDag.O p0_ p552.2.2]++F) ?_
 rintro j_ ⟨x538,x539,x540⟩ H
 rcases j_ with _ | j551
 ·
  exact (Gets.no H).elim
 replace H:Gets (dag_Dag_Add.l0 k a1 (j551 + 1) x538 x539 x540) _:=H
 rw [dag_Dag_Add.l0] at H
 refine WP.seq<|rg 1 0<|bn0 rfl rfl rfl run_lt<|.fin<|WP.seq<|cd H rfl (fun _ H=>?_) (fun _ H=>?_)
 rotate_left
 ·
  refine WP.exit ?_
  have H:=H.out
  exact jn (x538,decide (x538 < (a1.fParents.length:Int)),x539,x540) H
 refine WP.skip<|WP.seq<|WP.block<|WP.seq<|rg 3 0<|gr H fun g542 H=>Dv.ixr rfl trivial rfl rfl Tryz.underlying38 Tryz.underlying9 c9 g542.1 g542.2<|ldR rfl trivial rfl sc9 rfl<|as0 rfl rfl<|.fin<|WP.seq<|wg (DDag.opn 3 rfl) fun g543 h544=>?_
 refine wg (mpo_opn 1 rfl) fun z545 h546=>?_
 refine gr H fun g547 H=>wg (mpo_foc h546 rfl g547 (pm 6 [1,0,2,3,4,5])) fun _ _=>?_
 refine wg (DNode.opn 0 rfl) fun g548 h549=>?_
 refine dg Tryz.checked.mixed 19 262144<|mv0 rfl rfl<|mv0 rfl rfl<|Dv.nilp rfl trivial rfl<|fb rfl trivial rfl fa85_1<|ld 4 rfl trivial rfl sc3 rfl rfl<|ld 6 rfl trivial rfl sc59 rfl rfl<|Dv.nilpp h544 rfl trivial rfl<|fp h544 rfl trivial rfl fa82_1<|ld 3 rfl trivial rfl sc80 rfl rfl<|mv0 rfl rfl<|Dv.mlv nilP rfl trivial rfl (mem_at 2 rfl) rfl Tryz.underlying80 (keyOk_str Tryz.underlying9) z83 (fun _=>rfl)<|Dv.nilpp h549 rfl trivial rfl<|fp h549 rfl trivial rfl fa85_1<|ld 0 rfl trivial rfl sc3 rfl rfl<|bn0 rfl rfl rfl run_add<|Dv.maxi rfl trivial rfl rfl<|Dv.nilp rfl trivial rfl<|fb rfl trivial rfl fa85_1<|sx 4 rfl trivial rfl rfl cE sz3 rfl rfl rfl pB ?_
 refine .fin<|rg 9 256<|ld 6 rfl trivial rfl sc59 rfl rfl<|Dv.nilpp h544 rfl trivial rfl<|fp h544 rfl trivial rfl fa82_1<|ld 3 rfl trivial rfl sc80 rfl rfl<|mv0 rfl rfl<|Dv.mlv nilP rfl trivial rfl (mem_at 2 rfl) rfl Tryz.underlying80 (keyOk_str Tryz.underlying9) z83 (fun _=>rfl)<|Dv.nilpp h549 rfl trivial rfl<|fp h549 rfl trivial rfl fa85_2<|sx 0 rfl trivial rfl rfl cE sz4 rfl rfl rfl nofun ?_
 refine .fin<|rg 2 0<|bn0 rfl rfl rfl run_add<|mv0 rfl rfl<|.fin<|ng (DNode.shut (p:=((mget (zipK x540.fnodes z545) (strK.at a1.fParents x538)).getD nilP)) (m:=(⟨((mget x540.fnodes (strK.at a1.fParents x538)).getD default).fe,((mget x540.fnodes (strK.at a1.fParents x538)).getD default).fdepth,true⟩:DNode)) g548 h549 (pm 7 [0,1,2,3,4,5,6])) fun _ _=>?_
 refine ng (mpo_unf h546 rfl g547 (pm 7 [0,1,2,3,4,5,6])) fun _ h550=>?_
 refine ng (mpo_shut h550 (zipK_put' rfl g547) (pm 6 [1,0,2,3,4,5])) fun _ _=>?_
 refine ng (DDag.shut (p:=p0_) (m:=(⟨x540.froom,mput x540.fnodes (strK.at a1.fParents x538) (⟨((mget x540.fnodes (strK.at a1.fParents x538)).getD default).fe,((mget x540.fnodes (strK.at a1.fParents x538)).getD default).fdepth,true⟩:DNode)⟩:DDag)) (g543.1,g543.2) h544 (pm 5 [1,0,2,3,4])) fun _ _=>?_
 refine ng (sg 4 [1,2,3,0] 0) fun _ _=>?_
 exact bk j551 (w64 (x538 + 1),max x539 (w64 ((((mget x540.fnodes (strK.at a1.fParents x538)).getD default).fdepth) + 1)),(⟨x540.froom,mput x540.fnodes (strK.at a1.fParents x538) (⟨((mget x540.fnodes (strK.at a1.fParents x538)).getD default).fe,((mget x540.fnodes (strK.at a1.fParents x538)).getD default).fdepth,true⟩:DNode)⟩:DDag)) H
theorem view_View_Add.c {k:Nat} {a0:VView} {a1:Event} {p0_:OV} {r:Int×VView} (h:view_View_Add.f k a0 a1 = some r):Tr Tryz.prog 10 [eq p0_.1,agg (Event.enc a1)] [VView.O p0_ a0] (γ:=Unit) (fun _=>True) (fun g=>vI r.1) (fun g=>[VView.O p0_ r.2]):=by
 unfold view_View_Add.f at h
 refine Tr.body Tryz.func10 (c:=_) rfl Tryz.ntmps10 (Nat.le_of_ble_eq_true rfl) fun R0 F=>?_
 replace h:=Gets.of h
 have H:=h
 clear h
 refine WP.seq<|rg 2 1<|Dv.box rfl trivial rfl cA nofun fun b563=>as0 rfl rfl<|.fin<|WP.seq<|rg 5 8<|mv0 rfl rfl<|fb rfl trivial rfl fa40_1<|ld 0 rfl trivial rfl sc9 rfl rfl<|vg (VView.opn 1 rfl) fun g564 h565=>?_
 refine el H fun t566 h567 H=>cx 3 [0,1,2] cal24 (Tr.weak (view_View_room.c h567 (b0_:=g564.1) (v0_0:=g564.2)) (.cons (wk_ptr h565) (.cons wk_id .nil))) nofun fun v568 _=>?_
 refine as0 rfl rfl<|.fin<|WP.seq<|WP.seq<|rg 4 4<|mv0 rfl rfl<|lds 3 rfl trivial rfl sg40 rfl rfl<|el H fun t569 h570 H=>cx 4 [2,0,1,3] cal25 (dag_Dag_Add.c h570 (p0_:=v568)) nofun fun _ _=>?_
 refine as0 rfl rfl<|.fin<|WP.seq<|rg 2 0<|mv0 rfl rfl<|bn0 rfl rfl rfl run_ne<|.fin<|cd H rfl (fun _ H=>?_) (fun _ H=>?_)
 ·
  refine WP.seq<|rg 2 0<|mv0 rfl rfl<|as0 rfl rfl<|.fin<|wg (mpl_back (pm 4 [2,0,1,3])) fun _ _=>?_
  refine wg (VView.shut (p:=p0_) (m:=(⟨mres a0.fdags a1.fRoom t569.2⟩:VView)) (g564.1,g564.2) h565 (pm 3 [1,0,2])) fun _ _=>?_
  cases H.out; exact rt i2 rfl () 2 [1,0] 1 (.cons (res_tmp rfl) .nil)
 refine WP.skip<|WP.seq<|wg (mpl_opn 2 rfl) fun z572 h573=>?_
 refine dg Tryz.checked.mixed 8 128<|mv0 rfl rfl<|Dv.nilpp h565 rfl trivial rfl<|fp h565 rfl trivial rfl fa58_0<|ld 3 rfl trivial rfl sc56 rfl rfl<|fb rfl trivial rfl fa40_1<|ld 4 rfl trivial rfl sc9 rfl rfl<|mv0 rfl rfl<|Dv.mup (vp:=fun p:OV=>eq p.1) (jj:=0) v568 rfl trivial rfl rfl rfl rfl Tryz.underlying56 (keyOk_str Tryz.underlying9) (fun _=>pend_bits (by kernel_rfl))<|.fin<|WP.seq<|rg 1 0<|as0 rfl rfl<|.fin<|wg (mpl_add DDag.nn h573 (pm 5 [0,1,2,3,4])) fun _ _=>?_
 refine wg (VView.shut (p:=p0_) (m:=(⟨mput a0.fdags a1.fRoom t569.2⟩:VView)) (g564.1,g564.2) h565 (pm 3 [1,0,2])) fun _ _=>?_
 cases H.out; exact rt i2 rfl () 2 [1,0] 1 (.cons (res_tmp rfl) .nil)
theorem r10_Of.c {k:Nat} {a0:RView} {a1:ByteArray} {r:RDag} (h:r10_Of.f k a0 a1 = some r):Pt Tryz.prog 43 [agg (RView.enc a0),vS a1] (agg (RDag.enc r)):=by
 unfold r10_Of.f at h
 refine pb Tryz.func43 Tryz.ntmps43 h fun R0 F H=>?_
 refine WP.seq<|rg 2 3<|Dv.box rfl trivial rfl cA nofun fun b574=>al rfl trivial zc52 nofun fun b575=>.fin<|WP.seqr H id (fun p576:Int×Bool=>[(0,agg (RView.enc a0)),(1,vS a1),(2,eq (.pointer (some ⟨b574,0,none⟩))),(4,eq (.pointer (some ⟨b575,0,none⟩))),(5,vI p576.1),(10,vB p576.2)]) (fun p576:Int×Bool=>[blk b575 52 [vS (⟨#[]⟩:ByteArray),eq (.slice none 0 0)],blk b574 26 (RView.enc a0)]++F) (fun p576 H=>?_) (fun H=>?_)
 ·
  refine WP.seq<|rg 3 4<|mv0 rfl rfl<|Dv.bld (qs:=[vS a1,eq (.slice none 0 0)]) (css:=[[vS a1]]) rfl trivial Tryz.underlying52 pl52 z52 rfl ⟨(cells_one (one_eq rfl)),trivial⟩ rfl rfl<|sx 0 rfl trivial rfl rfl cA sz52 rfl rfl rfl nofun ?_
  refine .fin ?_
  cases H.out; exact r2 i2 rfl (.cons (res_wk (res_cells rfl Tryz.underlying52 rfl c52 (mem_at 0 rfl) rfl) (wk_agg (.cons wk_id (.cons wk_nil .nil)))) .nil)
 refine WP.seq<|rg 1 0<|as0 rfl rfl<|.fin<|WP.block<|wg (sg 2 [0,1] 0) fun _ _=>?_
 refine lp (fun j_ (p583:Int)=>r10_Of.l0 k a0 a1 j_ p583) 0 H (fun p583=>[(0,agg (RView.enc a0)),(1,vS a1),(2,eq (.pointer (some ⟨b574,0,none⟩))),(4,eq (.pointer (some ⟨b575,0,none⟩))),(5,vI p583)]) (fun p583=>[blk b575 52 [vS (⟨#[]⟩:ByteArray),eq (.slice none 0 0)],blk b574 26 (RView.enc a0)]++F) ?_
 rintro j_ x577 H
 rcases j_ with _ | j582
 ·
  exact (Gets.no H).elim
 replace H:Gets (r10_Of.l0 k a0 a1 (j582 + 1) x577) _:=H
 rw [r10_Of.l0] at H
 refine WP.seq<|WP.seq<|rg 5 0<|mv0 rfl rfl<|fb rfl trivial rfl fa26_0<|ld 1 rfl trivial rfl sc24 rfl rfl<|Dv.lenl rfl trivial rfl Tryz.underlying24<|bn0 rfl rfl rfl run_lt<|.fin<|cd H rfl (fun _ H=>?_) (fun _ H=>?_)
 rotate_left
 ·
  refine WP.exit ?_
  have H:=H.out
  exact jn (x577,decide (x577 < (a0.fD.length:Int))) H
 refine WP.skip<|WP.seq<|WP.block<|WP.seq<|rg 8 0<|fb rfl trivial rfl fa26_0<|ld 1 rfl trivial rfl sc24 rfl rfl<|mv0 rfl rfl<|gr H fun g579 H=>Dv.ixr rfl trivial rfl rfl Tryz.underlying24 Tryz.underlying52 c52 g579.1 g579.2<|fr rfl trivial rfl fa52_0 rfl<|ldR rfl trivial rfl sc9 rfl<|mv0 rfl rfl<|bn0 rfl rfl rfl run_seq<|.fin<|cd H rfl (fun _ H=>?_) (fun _ H=>?_)
 rotate_left
 ·
  exact WP.skip<|rg 3 0<|mv0 rfl rfl<|bn0 rfl rfl rfl run_add<|as0 rfl rfl<|.fin<|bk j582 (w64 (x577 + 1)) H
 refine WP.seq<|rg 6 32<|fb rfl trivial rfl fa26_0<|ld 1 rfl trivial rfl sc24 rfl rfl<|mv0 rfl rfl<|gr H fun g581 H=>Dv.ixr rfl trivial rfl rfl Tryz.underlying24 Tryz.underlying52 c52 g581.1 g581.2<|ldsR rfl trivial rfl sg52 rfl<|sx 0 rfl trivial rfl rfl cA sz52 rfl rfl rfl nofun ?_
 refine .fin ?_
 have H:=H.outr
 cases H.out; exact r2 i2 rfl (.cons (res_cells rfl Tryz.underlying52 rfl c52 (mem_at 0 rfl) rfl) .nil)
theorem r10_Add.c {k:Nat} {a0:RView} {a1:Event} {r:RView×Int} (h:r10_Add.f k a0 a1 = some r):Pt Tryz.prog 26 [agg (RView.enc a0),agg (Event.enc a1)] (tup [agg (RView.enc r.1),vI r.2]):=by
 unfold r10_Add.f at h
 refine pb Tryz.func26 Tryz.ntmps26 h fun R0 F H=>?_
 refine WP.seq<|rg 4 7<|Dv.box rfl trivial rfl cA nofun fun b584=>Dv.box rfl trivial rfl cA nofun fun b585=>al rfl trivial zc26 nofun fun b586=>as0 rfl rfl<|.fin<|WP.seq<|dg Tryz.checked.mixed 12 1536<|lds 2 rfl trivial rfl sg26 rfl rfl<|fb rfl trivial rfl fa40_1<|ld 1 rfl trivial rfl sc9 rfl rfl<|el H fun t587 h588 H=>cl rfl cal43 rfl (r10_Of.c h588)<|lds 1 rfl trivial rfl sg40 rfl rfl<|el H fun t589 h590 H=>cl rfl cal37 rfl (r07_Add.c h590)<|mv0 rfl rfl<|ex0 rfl trivial rfl rfl<|ex0 rfl trivial rfl rfl<|al rfl trivial zc52 (fun _=>(pend_in (fun _=>trivial) (pend_in (fun _=>trivial) (pend_in (fun _=>trivial) (pend_in (fun _=>trivial) (pend_in (fun _=>(mem_at 2 rfl)) (pend_in (fun _=>trivial) (pend_in (fun _=>(mem_at 2 rfl)) (pend_in (fun _=>trivial) (pend_in (fun _=>(mem_at 3 rfl)) pend_nil)))))))))) fun b591=>sx 0 rfl trivial rfl rfl cA sz52 rfl rfl rfl (fun _=>(pend_in (fun _=>trivial) (pend_by (by kernel_rfl) (pend_by (by kernel_rfl) (pend_by (by kernel_rfl) (pend_by (by kernel_rfl) (pend_by (by kernel_rfl) (pend_by (by kernel_rfl) (pend_by (by kernel_rfl) (pend_by (by kernel_rfl) pend_nil)))))))))) ?_
 refine as0 rfl rfl<|.fin<|WP.seq<|WP.seq<|rg 2 0<|mv0 rfl rfl<|bn0 rfl rfl rfl run_ne<|.fin<|cd H rfl (fun _ H=>?_) (fun _ H=>?_)
 ·
  refine WP.seq<|rg 4 4<|lds 3 rfl trivial rfl sg26 rfl rfl<|mv0 rfl rfl<|sx 1 rfl trivial rfl rfl cA sz26 rfl rfl rfl nofun ?_
  refine as0 rfl rfl<|.fin ?_
  cases H.out; exact r4 i2 rfl (.cons (res_cells rfl Tryz.underlying26 rfl c26 (mem_at 1 rfl) rfl) (.cons (res_tmp rfl) .nil))
 refine WP.skip<|WP.seq<|rg 1 0<|as0 rfl rfl<|.fin<|WP.seq<|rg 1 0<|as0 rfl rfl<|.fin<|WP.seqn H (fun q619:(Bool×Int×Bool×(List RDag))×OV=>q619.1) (fun q619:(Bool×Int×Bool×(List RDag))×OV=>[(0,agg (RView.enc a0)),(1,agg (Event.enc a1)),(2,eq (.pointer (some ⟨b584,0,none⟩))),(3,eq (.pointer (some ⟨b585,0,none⟩))),(4,eq (.pointer (some ⟨b586,0,none⟩))),(5,vI 0),(6,eq (.pointer (some ⟨b591,0,none⟩))),(7,vI t589.2),(8,eq q619.2.1),(9,vB q619.1.1),(10,vI q619.1.2.1),(21,vB (t589.2 != 0)),(28,vB q619.1.2.2.1)]) (fun q619:(Bool×Int×Bool×(List RDag))×OV=>[blk b591 52 (RDag.enc t589.1),blk b586 26 [eq (.slice none 0 0)],blk b585 40 (Event.enc a1),blk b584 26 (RView.enc a0),own RDag.K q619.2.1 q619.1.2.2.2]++F) (fun q619 H=>?_) (fun H=>?_)
 ·
  obtain ⟨p593,v594⟩:=q619
  refine WP.seq<|WP.seq<|rg 2 0<|mv0 rfl rfl<|un0 rfl rfl (run_not _)<|.fin<|cd H rfl (fun _ H=>?_) (fun _ H=>?_)
  rotate_left
  ·
   refine WP.skip<|WP.seq<|rg 4 4<|mv0 rfl rfl<|Dv.bld (qs:=[eq v594.1]) (css:=[[eq v594.1]]) rfl trivial Tryz.underlying26 pl26 z26 rfl ⟨(cells_one one_ov),trivial⟩ rfl rfl<|sx 1 rfl trivial rfl rfl cA sz26 rfl rfl rfl nofun ?_
   refine as0 rfl rfl<|.fin<|WP.gh (gh_frz (E':=[(4,eq (.pointer (some ⟨b586,0,none⟩))),(5,vI 0)]) (l':=[blk b591 52 (RDag.enc t589.1),blk b586 26 [sl RDag.K p593.2.2.2],blk b585 40 (Event.enc a1),blk b584 26 (RView.enc a0)]++F) 4 rfl (cve_cons rfl cv_id (cve_cons rfl cv_id cve_nil)) (all2_app (.cons cva_id (.cons (cva_blk (.cons cv_eq .nil)) (.cons cva_id (.cons cva_id .nil)))) fun _=>cva_id)) (fun _ _=>?_)
   cases H.out; exact r4 i2 rfl (.cons (res_cells rfl Tryz.underlying26 rfl c26 (mem_at 1 rfl) rfl) (.cons (res_tmp rfl) .nil))
  refine rg 5 8<|mv0 rfl rfl<|lds 0 rfl trivial rfl sg52 rfl rfl<|Dv.lit RDag.K ([t589.1]:List RDag) (css:=[RDag.enc t589.1]) rfl trivial Tryz.underlying24 Tryz.underlying52 c52 z52 rfl (by decide) (by decide) rfl ⟨(cells_agg (RDag.K.one _)),trivial⟩ rfl rfl rfl<|gr H fun g596 H=>ap RDag.K 4 ([t589.1]:List RDag) src_sl Tryz.underlying24 (.inr ⟨_,Tryz.underlying24⟩) inf52 g596 nofun fun v597=>?_
  refine as0 rfl rfl<|.fin<|WP.seq<|rg 4 4<|mv0 rfl rfl<|Dv.bld (qs:=[eq v597.1]) (css:=[[eq v597.1]]) rfl trivial Tryz.underlying26 pl26 z26 rfl ⟨(cells_one one_ov),trivial⟩ rfl rfl<|sx 1 rfl trivial rfl rfl cA sz26 rfl rfl rfl nofun ?_
  refine as0 rfl rfl<|.fin<|WP.gh (gh_frz (E':=[(4,eq (.pointer (some ⟨b586,0,none⟩))),(5,vI 0)]) (l':=[blk b591 52 (RDag.enc t589.1),blk b586 26 [sl RDag.K (p593.2.2.2++([t589.1]:List RDag))],blk b585 40 (Event.enc a1),blk b584 26 (RView.enc a0)]++F) 4 rfl (cve_cons rfl cv_id (cve_cons rfl cv_id cve_nil)) (all2_app (.cons cva_id (.cons (cva_blk (.cons cv_eq .nil)) (.cons cva_id (.cons cva_id .nil)))) fun _=>cva_id)) (fun _ _=>?_)
  cases H.out; exact r4 i2 rfl (.cons (res_cells rfl Tryz.underlying26 rfl c26 (mem_at 1 rfl) rfl) (.cons (res_tmp rfl) .nil))
 refine WP.seq<|rg 1 0<|as0 rfl rfl<|.fin<|WP.block<|wg (st_nil RDag.K none) fun _ _=>?_
 refine wg (sg 5 [1,2,3,4,0] 0) fun _ _=>?_
 refine lp (fun j_ (p618:Bool×Int×(List RDag)×OV)=>r10_Add.l0 k a0 a1 t589 j_ p618.1 p618.2.1 p618.2.2.1) (false,0,([]:List RDag),nilV) H (fun p618=>[(0,agg (RView.enc a0)),(1,agg (Event.enc a1)),(2,eq (.pointer (some ⟨b584,0,none⟩))),(3,eq (.pointer (some ⟨b585,0,none⟩))),(4,eq (.pointer (some ⟨b586,0,none⟩))),(5,vI 0),(6,eq (.pointer (some ⟨b591,0,none⟩))),(7,vI t589.2),(8,eq p618.2.2.2.1),(9,vB p618.1),(10,vI p618.2.1),(21,vB (t589.2 != 0))]) (fun p618=>[blk b591 52 (RDag.enc t589.1),blk b586 26 [eq (.slice none 0 0)],blk b585 40 (Event.enc a1),blk b584 26 (RView.enc a0),own RDag.K p618.2.2.2.1 p618.2.2.1]++F) ?_
 rintro j_ ⟨x598,x599,x600,v601⟩ H
 rcases j_ with _ | j617
 ·
  exact (Gets.no H).elim
 replace H:Gets (r10_Add.l0 k a0 a1 t589 (j617 + 1) x598 x599 x600) _:=H
 rw [r10_Add.l0] at H
 refine WP.seq<|WP.seq<|rg 5 0<|mv0 rfl rfl<|fb rfl trivial rfl fa26_0<|ld 3 rfl trivial rfl sc24 rfl rfl<|Dv.lenl rfl trivial rfl Tryz.underlying24<|bn0 rfl rfl rfl run_lt<|.fin<|cd H rfl (fun _ H=>?_) (fun _ H=>?_)
 rotate_left
 ·
  refine WP.exit ?_
  have H:=H.out
  exact jn ((x598,x599,decide (x599 < (a0.fD.length:Int)),x600),v601) H
 refine WP.skip<|WP.seq<|WP.block<|WP.seqn H (fun q616:(Bool×Bool×(List RDag))×OV=>q616.1) (fun q616:(Bool×Bool×(List RDag))×OV=>[(0,agg (RView.enc a0)),(1,agg (Event.enc a1)),(2,eq (.pointer (some ⟨b584,0,none⟩))),(3,eq (.pointer (some ⟨b585,0,none⟩))),(4,eq (.pointer (some ⟨b586,0,none⟩))),(5,vI 0),(6,eq (.pointer (some ⟨b591,0,none⟩))),(7,vI t589.2),(8,eq q616.2.1),(9,vB q616.1.1),(10,vI x599),(21,vB (t589.2 != 0)),(28,vB (decide (x599 < (a0.fD.length:Int)))),(43,vB q616.1.2.1)]) (fun q616:(Bool×Bool×(List RDag))×OV=>[blk b591 52 (RDag.enc t589.1),blk b586 26 [eq (.slice none 0 0)],blk b585 40 (Event.enc a1),blk b584 26 (RView.enc a0),own RDag.K q616.2.1 q616.1.2.2]++F) (fun q616 H=>?_) (fun H=>?_)
 ·
  obtain ⟨p603,v604⟩:=q616
  refine WP.seq<|dg Tryz.checked.mixed 9 0<|fb rfl trivial rfl fa26_0<|ld 3 rfl trivial rfl sc24 rfl rfl<|mv0 rfl rfl<|gr H fun g605 H=>Dv.ixr rfl trivial rfl rfl Tryz.underlying24 Tryz.underlying52 c52 g605.1 g605.2<|fr rfl trivial rfl fa52_0 rfl<|ldR rfl trivial rfl sc9 rfl<|fb rfl trivial rfl fa40_1<|ld 2 rfl trivial rfl sc9 rfl rfl<|bn0 rfl rfl rfl run_sne<|.fin<|cd H rfl (fun _ H=>?_) (fun _ H=>?_)
  rotate_left
  ·
   exact WP.skip<|rg 3 0<|mv0 rfl rfl<|bn0 rfl rfl rfl run_add<|as0 rfl rfl<|.fin<|bk j617 (p603.1,w64 (x599 + 1),p603.2.2,v604) H
  refine rg 9 128<|mv0 rfl rfl<|fb rfl trivial rfl fa26_0<|ld 3 rfl trivial rfl sc24 rfl rfl<|mv0 rfl rfl<|gr H fun g607 H=>Dv.ixr rfl trivial rfl rfl Tryz.underlying24 Tryz.underlying52 c52 g607.1 g607.2<|ldsR rfl trivial rfl sg52 rfl<|Dv.lit RDag.K ([RDag.K.at a0.fD x599]:List RDag) (css:=[RDag.enc (RDag.K.at a0.fD x599)]) rfl trivial Tryz.underlying24 Tryz.underlying52 c52 z52 rfl (by decide) (by decide) rfl ⟨(cells_agg (RDag.K.one _)),trivial⟩ rfl rfl rfl<|gr H fun g608 H=>ap RDag.K 4 ([RDag.K.at a0.fD x599]:List RDag) src_sl Tryz.underlying24 (.inr ⟨_,Tryz.underlying24⟩) inf52 g608 nofun fun v609=>?_
  exact as0 rfl rfl<|.fin<|rg 3 0<|mv0 rfl rfl<|bn0 rfl rfl rfl run_add<|as0 rfl rfl<|.fin<|bk j617 (p603.1,w64 (x599 + 1),p603.2.2++([RDag.K.at a0.fD x599]:List RDag),v609) H
 refine WP.seq<|dg Tryz.checked.mixed 13 0<|mv0 rfl rfl<|un0 rfl rfl (run_not _)<|mv0 rfl rfl ?_
 cases c610:!x598
 ·
  have H:=H.cf c610
  refine sk rfl rfl<|sk rfl rfl<|sk rfl rfl<|sk rfl rfl<|sk rfl rfl<|sk rfl rfl<|sk rfl rfl<|sk rfl rfl<|sk rfl rfl<|pf0 rfl rfl rfl<|.fin<|WP.cond rfl nofun (fun _=>?_)
  refine WP.skip ?_
  have H:=H.out
  exact jn ((x598,false,x600),v601) H
 have H:=H.ct c610
 refine fb rfl (gg rfl) rfl fa40_1<|ld 2 rfl (gg rfl) rfl sc9 rfl rfl<|fb rfl (gg rfl) rfl fa26_0<|ld 3 rfl (gg rfl) rfl sc24 rfl rfl<|mvg rfl rfl rfl<|gr H fun g611 H=>Dv.ixr rfl (gg rfl) rfl rfl Tryz.underlying24 Tryz.underlying52 c52 g611.1 g611.2<|fr rfl (gg rfl) rfl fa52_0 rfl<|ldR rfl (gg rfl) rfl sc9 rfl<|bng rfl rfl rfl rfl run_sle<|pt0 rfl rfl rfl<|.fin<|cd H rfl (fun _ H=>?_) (fun _ H=>?_)
 rotate_left
 ·
  refine WP.skip ?_
  have H:=H.out
  exact jn ((x598,!sLt ((RDag.K.at a0.fD x599).fRoom) a1.fRoom,x600),v601) H
 refine WP.seq<|rg 5 8<|mv0 rfl rfl<|lds 0 rfl trivial rfl sg52 rfl rfl<|Dv.lit RDag.K ([t589.1]:List RDag) (css:=[RDag.enc t589.1]) rfl trivial Tryz.underlying24 Tryz.underlying52 c52 z52 rfl (by decide) (by decide) rfl ⟨(cells_agg (RDag.K.one _)),trivial⟩ rfl rfl rfl<|gr H fun g613 H=>ap RDag.K 4 ([t589.1]:List RDag) src_sl Tryz.underlying24 (.inr ⟨_,Tryz.underlying24⟩) inf52 g613 nofun fun v614=>?_
 refine as0 rfl rfl<|.fin<|rg 1 0<|as0 rfl rfl<|.fin ?_
 have H:=H.out
 exact jn ((true,!sLt ((RDag.K.at a0.fD x599).fRoom) a1.fRoom,x600++([t589.1]:List RDag)),v614) H
theorem r10_Build.c {k:Nat} {a0:List Event} {r:RView} (h:r10_Build.f k a0 = some r):Pt Tryz.prog 11 [sl Event.K a0] (agg (RView.enc r)):=by
 unfold r10_Build.f at h
 refine pb Tryz.func11 Tryz.ntmps11 h fun R0 F H=>?_
 refine WP.seq<|rg 1 1<|al rfl trivial zc26 nofun fun b620=>.fin<|WP.seq<|rg 1 1<|al rfl trivial zc26 nofun fun b621=>.fin<|WP.seqn H id (fun p622:Int×Bool×(List RDag)=>[(0,sl Event.K a0),(2,eq (.pointer (some ⟨b620,0,none⟩))),(3,eq (.pointer (some ⟨b621,0,none⟩))),(4,vI p622.1),(10,vB p622.2.1)]) (fun p622:Int×Bool×(List RDag)=>[blk b621 26 [sl RDag.K p622.2.2],blk b620 26 [eq (.slice none 0 0)]]++F) (fun p622 H=>?_) (fun H=>?_)
 ·
  refine WP.seq<|rg 2 2<|lds 0 rfl trivial rfl sg26 rfl rfl<|sx 1 rfl trivial rfl rfl cA sz26 rfl rfl rfl nofun ?_
  refine .fin ?_
  cases H.out; exact r2 i2 rfl (.cons (res_cells rfl Tryz.underlying26 rfl c26 (mem_at 1 rfl) rfl) .nil)
 refine WP.seq<|rg 1 0<|as0 rfl rfl<|.fin<|WP.block<|WP.gh (gh_wk (E':=[(0,sl Event.K a0),(2,eq (.pointer (some ⟨b620,0,none⟩))),(3,eq (.pointer (some ⟨b621,0,none⟩))),(4,vI 0)]) (l':=[blk b621 26 [sl RDag.K ([]:List RDag)],blk b620 26 [eq (.slice none 0 0)]]++F) (wke_cons rfl wk_id (wke_cons rfl wk_id (wke_cons rfl wk_id (wke_cons rfl wk_id wke_nil)))) (all2_app (.cons (wka_blk (.cons wk_nil .nil)) (.cons wka_id .nil)) fun _=>wka_id)) (fun _ _=>?_)
 refine wg (sg 2 [0,1] 0) fun _ _=>?_
 refine lp (fun j_ (p631:Int×(List RDag))=>r10_Build.l0 k a0 j_ p631.1 p631.2) (0,([]:List RDag)) H (fun p631=>[(0,sl Event.K a0),(2,eq (.pointer (some ⟨b620,0,none⟩))),(3,eq (.pointer (some ⟨b621,0,none⟩))),(4,vI p631.1)]) (fun p631=>[blk b621 26 [sl RDag.K p631.2],blk b620 26 [eq (.slice none 0 0)]]++F) ?_
 rintro j_ ⟨x623,x624⟩ H
 rcases j_ with _ | j630
 ·
  exact (Gets.no H).elim
 replace H:Gets (r10_Build.l0 k a0 (j630 + 1) x623 x624) _:=H
 rw [r10_Build.l0] at H
 refine WP.seq<|WP.seq<|rg 4 0<|mv0 rfl rfl<|mv0 rfl rfl<|Dv.lenl rfl trivial rfl Tryz.underlying33<|bn0 rfl rfl rfl run_lt<|.fin<|cd H rfl (fun _ H=>?_) (fun _ H=>?_)
 rotate_left
 ·
  refine WP.exit ?_
  have H:=H.out
  exact jn (x623,decide (x623 < (a0.length:Int)),x624) H
 refine WP.skip<|WP.seq<|WP.block<|WP.seq<|dg Tryz.checked.mixed 12 1536<|lds 0 rfl trivial rfl sg26 rfl rfl<|mv0 rfl rfl<|mv0 rfl rfl<|gr H fun g626 H=>Dv.ixr rfl trivial rfl rfl Tryz.underlying33 Tryz.underlying40 c40 g626.1 g626.2<|ldsR rfl trivial rfl sg40 rfl<|el H fun t627 h628 H=>cl rfl cal26 rfl (r10_Add.c h628)<|mv0 rfl rfl<|ex0 rfl trivial rfl rfl<|ex0 rfl trivial rfl rfl<|al rfl trivial zc26 (fun _=>(pend_in (fun _=>trivial) (pend_in (fun _=>trivial) (pend_in (fun _=>trivial) (pend_in (fun _=>trivial) (pend_in (fun _=>trivial) (pend_in (fun _=>trivial) (pend_in (fun _=>trivial) (pend_in (fun _=>trivial) (pend_in (fun _=>(mem_at 1 rfl)) pend_nil)))))))))) fun b629=>sx 0 rfl trivial rfl rfl cA sz26 rfl rfl rfl (fun _=>(pend_in (fun _=>trivial) (pend_by (by kernel_rfl) (pend_by (by kernel_rfl) (pend_by (by kernel_rfl) (pend_by (by kernel_rfl) (pend_by (by kernel_rfl) (pend_by (by kernel_rfl) (pend_by (by kernel_rfl) (pend_by (by kernel_rfl) pend_nil)))))))))) ?_
 refine as0 rfl rfl<|.fin<|rg 2 2<|lds 0 rfl trivial rfl sg26 rfl rfl<|sx 1 rfl trivial rfl rfl cA sz26 rfl rfl rfl nofun ?_
 refine .fin<|rg 3 0<|mv0 rfl rfl<|bn0 rfl rfl rfl run_add<|as0 rfl rfl<|.fin<|ng (sg 3 [0,1,2] 1) fun _ _=>?_
 exact bk j630 (w64 (x623 + 1),t627.1.fD) H
theorem w10_build.c {k:Nat} {a0:List GMade} {a1:List GMade} {r:(Option VView)×RView} (h:w10_build.f k a0 a1 = some r):Tr Tryz.prog 4 [sl GMade.K a0,sl GMade.K a1] [] (γ:=OV) (fun _=>True) (fun g=>tup [eq g.1,agg (RView.enc r.2)]) (fun g=>[optO VView.O g r.1]):=by
 unfold w10_build.f at h
 refine Tr.body Tryz.func4 (c:=_) rfl Tryz.ntmps4 (Nat.le_of_ble_eq_true rfl) fun R0 F=>?_
 replace h:=Gets.of h
 have H:=h
 clear h
 refine WP.seq<|rg 2 2<|as0 rfl rfl<|al rfl trivial zc26 nofun fun b632=>.fin<|WP.seq<|rg 4 4<|mv0 rfl rfl<|mv0 rfl rfl<|el H fun t633 h634 H=>cx 1 [0] cal8 (r10_Made.c h634) nofun fun g635 _=>?_
 refine as0 rfl rfl<|.fin<|WP.seq<|rg 2 1<|el H fun t636 h637 H=>cx 2 [0,1] cal9 (view_New.c h637) nofun fun g638 _=>?_
 refine as0 rfl rfl<|.fin<|WP.seq<|WP.seq<|rg 2 0<|mv0 rfl rfl<|Dv.peq0 VView.nn rfl trivial rfl rfl Tryz.underlying23 (mem_at 0 rfl)<|.fin<|WP.cond rfl nofun (fun _=>?_)
 refine WP.skip<|WP.seqr H id (fun p640:Int×Bool×VView=>[(0,sl GMade.K a0),(1,sl GMade.K a1),(4,eq (.pointer none)),(5,eq (.pointer (some ⟨b632,0,none⟩))),(6,eq g635.1),(7,eq g638.1),(8,vI p640.1),(14,vB false),(19,vB p640.2.1)]) (fun p640:Int×Bool×VView=>[blk b632 26 [eq (.slice none 0 0)],VView.O g638 p640.2.2,own Event.K g635.1 t633]++F) (fun p640 H=>?_) (fun H=>?_)
 ·
  refine WP.seq<|rg 5 16<|mv0 rfl rfl<|mv0 rfl rfl<|Dv.gh (gh_frz (E':=[(0,sl GMade.K a0),(1,sl GMade.K a1),(4,eq (.pointer none)),(5,eq (.pointer (some ⟨b632,0,none⟩))),(6,sl Event.K t633),(7,eq g638.1),(8,vI p640.1),(14,vB false),(19,vB p640.2.1),(30,eq g638.1),(31,sl Event.K t633)]) (l':=[blk b632 26 [eq (.slice none 0 0)],VView.O g638 p640.2.2]++F) 2 rfl (cve_cons rfl cv_id (cve_cons rfl cv_id (cve_cons rfl cv_id (cve_cons rfl cv_id (cve_cons rfl cv_eq (cve_cons rfl cv_id (cve_cons rfl cv_id (cve_cons rfl cv_id (cve_cons rfl cv_id (cve_cons rfl cv_id (cve_cons rfl cv_eq cve_nil))))))))))) (all2_app (.cons cva_id (.cons cva_id .nil)) fun _=>cva_id)) (fun _ _=>?_)
  refine el H fun t641 h642 H=>cl rfl cal11 rfl (r10_Build.c h642)<|as0 rfl rfl<|sx 0 rfl trivial rfl rfl cA sz26 rfl rfl rfl nofun ?_
  refine .fin ?_
  obtain rfl:=Gets.out H
  exact rt i2 rfl g638 2 [0,1] 1 (.cons (res_tmp rfl) (.cons (res_cells rfl Tryz.underlying26 rfl c26 (mem_at 0 rfl) rfl) .nil))
 refine WP.seq<|rg 1 0<|as0 rfl rfl<|.fin<|WP.block<|wg (sg 3 [2,0,1] 0) fun _ _=>?_
 refine lp (fun j_ (p652:Int×VView)=>w10_build.l0 k t633 j_ p652.1 p652.2) (0,t636) H (fun p652=>[(0,sl GMade.K a0),(1,sl GMade.K a1),(4,eq (.pointer none)),(5,eq (.pointer (some ⟨b632,0,none⟩))),(6,eq g635.1),(7,eq g638.1),(8,vI p652.1),(14,vB false)]) (fun p652=>[blk b632 26 [eq (.slice none 0 0)],VView.O g638 p652.2,own Event.K g635.1 t633]++F) ?_
 rintro j_ ⟨x643,x644⟩ H
 rcases j_ with _ | j651
 ·
  exact (Gets.no H).elim
 replace H:Gets (w10_build.l0 k t633 (j651 + 1) x643 x644) _:=H
 rw [w10_build.l0] at H
 refine WP.seq<|WP.seq<|rg 4 0<|mv0 rfl rfl<|mv0 rfl rfl<|Dv.lenw rfl trivial rfl (mem_at 2 rfl) Tryz.underlying33<|bn0 rfl rfl rfl run_lt<|.fin<|cd H rfl (fun _ H=>?_) (fun _ H=>?_)
 rotate_left
 ·
  refine WP.exit ?_
  have H:=H.out
  exact jn (x643,decide (x643 < (t633.length:Int)),x644) H
 refine WP.skip<|WP.seq<|WP.block<|WP.seq<|rg 7 32<|mv0 rfl rfl<|mv0 rfl rfl<|mv0 rfl rfl<|gr H fun g646 H=>?_
 have h647:x643.toNat < t633.length:=idx_lt g646
 refine Dv.ixw rfl trivial rfl (mem_at 2 rfl) rfl Tryz.underlying33 Tryz.underlying40 c40 g646.1 g646.2<|Dv.ldws (j:=x643.toNat) (f:=0) rfl trivial rfl (mem_at 2 rfl) h647 Tryz.underlying40 rfl c40 (Nat.le_of_ble_eq_true rfl)<|el H fun t648 h649 H=>cx 3 [1,0,2] cal10 (view_View_Add.c h649 (p0_:=g638)) nofun fun _ _=>?_
 refine bn0 rfl rfl rfl run_ne<|.fin<|cd H rfl (fun _ H=>?_) (fun _ H=>?_)
 rotate_left
 ·
  refine WP.skip<|rg 3 0<|mv0 rfl rfl<|bn0 rfl rfl rfl run_add<|as0 rfl rfl<|.fin<|ng (sg 3 [1,0,2] 0) fun _ _=>?_
  exact bk j651 (w64 (x643 + 1),t648.2) H
 refine WP.seq<|rg 3 4<|Dv.bld (qs:=[eq (.slice none 0 0)]) (css:=[]) rfl trivial Tryz.underlying26 pl26 z26 rfl trivial rfl rfl<|as0 rfl rfl<|sx 1 rfl trivial rfl rfl cA sz26 rfl rfl rfl nofun ?_
 refine .fin<|wg (st_nilP (O:=VView.O)) fun _ _=>?_
 have H:=H.outr
 obtain rfl:=Gets.out H
 exact rt i2 rfl nilP 4 [1,2,3,0] 3 (.cons (res_tmp rfl) (.cons (res_wk (res_cells rfl Tryz.underlying26 rfl c26 (mem_at 2 rfl) rfl) (wk_agg (.cons wk_nil .nil))) .nil))
theorem slices_Equal_string.c {k:Nat} {a0:List ByteArray} {a1:List ByteArray} {r:Bool} (h:slices_Equal_string.f k a0 a1 = some r):Pt Tryz.prog 12 [sl strK a0,sl strK a1] (vB r):=by
 unfold slices_Equal_string.f at h
 refine pb Tryz.func12 Tryz.ntmps12 h fun R0 F H=>?_
 refine WP.seq<|rg 1 0<|as0 rfl rfl<|.fin<|WP.seq<|WP.seq<|rg 5 0<|mv0 rfl rfl<|Dv.lenl rfl trivial rfl Tryz.underlying38<|mv0 rfl rfl<|Dv.lenl rfl trivial rfl Tryz.underlying38<|bn0 rfl rfl rfl run_ne<|.fin<|cd H rfl (fun _ H=>?_) (fun _ H=>?_)
 ·
  refine WP.seq<|rg 1 0<|as0 rfl rfl<|.fin ?_
  cases H.out; exact r0 i2 rfl (.cons (res_tmp rfl) .nil)
 refine WP.skip<|WP.seqr H id (fun p654:Int×Bool=>[(0,sl strK a0),(1,sl strK a1),(4,vB false),(10,vB ((a0.length:Int) != (a1.length:Int))),(12,vI (a0.length:Int)),(13,vI p654.1),(14,vB p654.2)]) (fun p654:Int×Bool=>F) (fun p654 H=>?_) (fun H=>?_)
 ·
  refine WP.seq<|rg 1 0<|as0 rfl rfl<|.fin ?_
  cases H.out; exact r0 i2 rfl (.cons (res_tmp rfl) .nil)
 refine WP.seq<|rg 3 0<|mv0 rfl rfl<|Dv.lenl rfl trivial rfl Tryz.underlying38<|mv0 rfl rfl<|.fin<|WP.block<|wg (sg 0 [] 0) fun _ _=>?_
 refine lp (fun j_ (p661:Int)=>slices_Equal_string.l0 k a0 a1 j_ p661) 0 H (fun p661=>[(0,sl strK a0),(1,sl strK a1),(4,vB false),(10,vB ((a0.length:Int) != (a1.length:Int))),(12,vI (a0.length:Int)),(13,vI p661)]) (fun p661=>F) ?_
 rintro j_ x655 H
 rcases j_ with _ | j660
 ·
  exact (Gets.no H).elim
 replace H:Gets (slices_Equal_string.l0 k a0 a1 (j660 + 1) x655) _:=H
 rw [slices_Equal_string.l0] at H
 refine WP.seq<|rg 1 0<|bn0 rfl rfl rfl run_lt<|.fin<|WP.seq<|cd H rfl (fun _ H=>?_) (fun _ H=>?_)
 rotate_left
 ·
  refine WP.exit ?_
  have H:=H.out
  exact jn (x655,decide (x655 < (a0.length:Int))) H
 refine WP.skip<|WP.seq<|WP.block<|WP.seq<|rg 2 0<|mv0 rfl rfl<|as0 rfl rfl<|.fin<|WP.seq<|dg Tryz.checked.mixed 9 0<|mv0 rfl rfl<|mv0 rfl rfl<|gr H fun g657 H=>Dv.ixr rfl trivial rfl rfl Tryz.underlying38 Tryz.underlying9 c9 g657.1 g657.2<|ldR rfl trivial rfl sc9 rfl<|mv0 rfl rfl<|mv0 rfl rfl<|gr H fun g658 H=>Dv.ixr rfl trivial rfl rfl Tryz.underlying38 Tryz.underlying9 c9 g658.1 g658.2<|ldR rfl trivial rfl sc9 rfl<|bn0 rfl rfl rfl run_sne<|.fin<|cd H rfl (fun _ H=>?_) (fun _ H=>?_)
 rotate_left
 ·
  exact WP.skip<|rg 2 0<|bn0 rfl rfl rfl run_add<|mv0 rfl rfl<|.fin<|bk j660 (w64 (x655 + 1)) H
 refine WP.seq<|rg 1 0<|as0 rfl rfl<|.fin ?_
 have H:=H.outr
 cases H.out; exact r0 i2 rfl (.cons (res_tmp rfl) .nil)
theorem slices_Sort_string.c {a0:List ByteArray} {p0_:OV} {r:List ByteArray} (h:slices_Sort_string.f a0 = some r):Tr Tryz.prog 27 [eq p0_.1] [own strK p0_.1 a0] (γ:=Unit) (fun _=>True) (fun g=>tup []) (fun g=>[own strK p0_.1 r]):=by
 unfold slices_Sort_string.f at h
 obtain ⟨h0,h5⟩:=(Gets.of h).grd
 obtain rfl:=Gets.out h5
 exact sort_tr (fun blk off cap ss w=>Go.Proofs.Any.slices_Sort_string Tryz.lays190 blk off cap ss w) (fun q cap w=>Go.Proofs.Any.slices_Sort_string_none Tryz.lays190 q cap w) h0
theorem view_View_Rooms.c {a0:VView} {b0_:Nat} {v0_0:OV} {r:List ByteArray} (h:view_View_Rooms.f a0 = some r):Tr Tryz.prog 13 [eq (.pointer (some ⟨b0_,0,none⟩))] [blk b0_ 58 [eq v0_0.1],mpo Value.string DDag.O v0_0.1 a0.fdags] (γ:=OV) (fun _=>True) (fun g=>eq g.1) (fun g=>[blk b0_ 58 [eq v0_0.1],mpo Value.string DDag.O v0_0.1 a0.fdags,own strK g.1 r]):=by
  unfold view_View_Rooms.f at h
  obtain ⟨h0,h5⟩:=(Gets.of h).grd
  obtain rfl:=Gets.out h5
  clear h h5
  refine Tr.body Tryz.func13 (c:=_) rfl Tryz.ntmps13 (Nat.le_of_ble_eq_true rfl) fun R0 F=>?_
  refine WP.seq<|rg 1 0<|as0 rfl rfl<|.fin<|WP.seq<|rg 1 0<|as0 rfl rfl<|.fin ?_
  refine WP.seqj (β:=List Nat×OV) (fun b=>b.1.Perm (List.range a0.fdags.length)) (fun b=>[(3,eq b.2.1)]) (fun b=>[own strK b.2.1 (selM a0.fdags (fun e=>some e.1) b.1),blk b0_ 58 [eq v0_0.1],mpo Value.string DDag.O v0_0.1 a0.fdags]++F) (fun b hb=>?_) ?_
  rotate_left
  · refine WP.seq<|rg 5 16<|mv0 rfl rfl<|Dv.nilp rfl trivial rfl<|fb rfl trivial rfl fa58_0<|ld 0 rfl trivial rfl sc56 rfl rfl ?_
    refine Dv.gh (l':=fun ps:List OV=>[mp Value.string (fun p:OV=>eq p.1) v0_0.1 (zipK a0.fdags ps),thg DDag.O a0.fdags ps,blk b0_ 58 [eq v0_0.1]]++F) (gh_of (mpo_opn 1 rfl)) (fun ps hps=>?_)
    refine Dv.rgb (jj:=0) rfl trivial rfl rfl Tryz.underlying56 nofun (fun q=>.fin ?_)
    refine WP.gh (l':=fun _:Unit=>[rng Value.string (fun p:OV=>eq p.1) v0_0.1 q.1 (zipK a0.fdags ps) [],thg DDag.O a0.fdags ps,blk b0_ 58 [eq v0_0.1]]++F) (gh_of (ok:=fun _=>True) fun R w k=>⟨(),trivial,k⟩) (fun _ _=>?_)
    refine WP.gh (l':=fun _:Unit=>[own strK nilV.1 [],rng Value.string (fun p:OV=>eq p.1) v0_0.1 q.1 (zipK a0.fdags ps) [],thg DDag.O a0.fdags ps,blk b0_ 58 [eq v0_0.1]]++F) (gh_of (st_nil strK none)) (fun _ _=>?_)
    refine WP.block ?_
    refine WP.weak (E':=(fun b:List Nat×OV=>[(3,eq b.2.1),(9,eq q.1)]) ([],nilV)) (weak_cons rfl (weak_cons rfl weak_nil)) (WP.loop (β:=List Nat×OV) (fun k b=>b.1.length + k = a0.fdags.length) (fun b=>[(3,eq b.2.1),(9,eq q.1)]) (fun b=>[own strK b.2.1 (selM a0.fdags (fun e=>some e.1) b.1),rng Value.string (fun p:OV=>eq p.1) v0_0.1 q.1 (zipK a0.fdags ps) b.1,thg DDag.O a0.fdags ps,blk b0_ 58 [eq v0_0.1]]++F) ?_ (k:=a0.fdags.length) (b:=([],nilV)) (Nat.zero_add _))
    rintro k ⟨is,v⟩ hk
    replace hk:is.length + k = a0.fdags.length:=hk
    refine WP.seq<|rg 2 1<|Dv.rgn (jj:=1) rfl trivial rfl rfl nofun (fun z hz=>?_)
    rcases z with _ | j
    · have hz:is.Perm (List.range (zipK a0.fdags ps).length):=hz
      rw [zipK_len hps.1] at hz
      refine ex0 rfl trivial rfl rfl<|.fin<|WP.seq<|WP.cond rfl nofun (fun _=>WP.exit ?_)
      refine Dn.gh (l':=fun _:Unit=>[own strK v.1 (selM a0.fdags (fun e=>some e.1) is),rng Value.string (fun p:OV=>eq p.1) v0_0.1 q.1 (zipK a0.fdags ps) is,thg DDag.O a0.fdags ps,blk b0_ 58 [eq v0_0.1]]++F) (gh_of (ok:=fun _=>True) fun R w k=>⟨(),trivial,k⟩) (fun _ _=>?_)
      refine Dn.gh (l':=fun _:Unit=>[mp Value.string (fun p:OV=>eq p.1) v0_0.1 (zipK a0.fdags ps),own strK v.1 (selM a0.fdags (fun e=>some e.1) is),thg DDag.O a0.fdags ps,blk b0_ 58 [eq v0_0.1]]++F) (gh_of (st_rge (pm 4 [1,0,2,3]))) (fun _ _=>?_)
      refine Dn.gh (l':=fun _:Unit=>[mpo Value.string DDag.O v0_0.1 a0.fdags,own strK v.1 (selM a0.fdags (fun e=>some e.1) is),blk b0_ 58 [eq v0_0.1]]++F) (gh_of (mpo_shut hps rfl (pm 4 [0,2,1,3]))) (fun _ _=>?_)
      exact Jn.mk (is,v) hz (weak_cons rfl weak_nil) (perm_ton 3 [1,2,0] (by kernel_rfl) rfl rfl)
    have hz:j < (zipK a0.fdags ps).length∧j ∉ is∧is.length < (zipK a0.fdags ps).length:=hz
    obtain ⟨e,p,he,hp,hep⟩:=zipK_get hps hz.1
    have hlt:is.length < a0.fdags.length:=by rw [← zipK_len hps.1]; exact hz.2.2
    have hsl:=Nat.le_trans (selM_len (m:=a0.fdags) (f:=(fun e=>some e.1)) (is:=is)) (Nat.le_of_lt hlt)
    have e1:nxV Value.string (fun p:OV=>eq p.1) (zipK a0.fdags ps) (some j) = tup [vB true,vS e.1,eq p.1]:=by simp only [nxV,hep]
    rw [e1]
    refine ex0 rfl trivial rfl rfl<|.fin<|WP.seq<|WP.cond rfl (fun _=>WP.skip ?_) nofun
    refine WP.gh (l':=fun _:Unit=>[own strK v.1 (selM a0.fdags (fun e=>some e.1) is),rng Value.string (fun p:OV=>eq p.1) v0_0.1 q.1 (zipK a0.fdags ps) (is++[j]),thg DDag.O a0.fdags ps,blk b0_ 58 [eq v0_0.1]]++F) (gh_of (ok:=fun _=>True) fun R w k=>⟨(),trivial,k⟩) (fun _ _=>?_)
    refine WP.block<|WP.seq<|rg 3 0<|Dv.rge 1 rfl trivial rfl rfl hep ?_
    refine ex0 rfl trivial rfl rfl<|as0 rfl rfl<|.fin ?_
    have e6:=selM_some (f:=(fun e=>some e.1)) (is:=is) he rfl
    have hbd:(selM a0.fdags (fun e=>some e.1) is).length + ([e.1]:List ByteArray).length≤9223372036854775807∧((selM a0.fdags (fun e=>some e.1) is).length + ([e.1]:List ByteArray).length) * 16≤140737488355328:=by rw [List.length_singleton]; omega
    refine rg 5 8<|mv0 rfl rfl<|mv0 rfl rfl<|Dv.lit strK ([e.1]:List ByteArray) (css:=[[vS e.1]]) rfl trivial Tryz.underlying38 Tryz.underlying9 c9 z9 rfl (by decide) (by decide) rfl ⟨(cells_one (one_eq rfl)),trivial⟩ rfl rfl rfl<|ap strK 0 ([e.1]:List ByteArray) src_sl Tryz.underlying38 (.inr ⟨_,Tryz.underlying38⟩) inf9 hbd nofun fun v9=>as0 rfl rfl<|.fin ?_
    rw [e6]
    exact Back.mk (k - 1) (is++[j],v9) (by omega) (by show (is++[j]).length + (k - 1) = _; rw [List.length_append,List.length_singleton]; omega) (weak_cons rfl (weak_cons rfl weak_nil)) (List.Perm.refl _)
  obtain ⟨is,v3⟩:=b
  replace hb:is.Perm (List.range a0.fdags.length):=hb
  have hp:=selM_perm (f:=(fun e=>some e.1)) hb
  have hs:slices_Sort_string.f (selM a0.fdags (fun e=>some e.1) is) = some (srtS (a0.fdags.map (·.1))):=by
    have e7:a0.fdags.filterMap (fun e=>some e.1) = a0.fdags.map (·.1):=by rw [← List.filterMap_eq_map]; rfl
    rw [e7] at hp
    unfold slices_Sort_string.f Sp.grd
    rw [if_pos (by rw [hp.length_eq,List.length_map]; omega),srtS_eq hp]
  refine WP.seq<|rg 2 2<|mv0 rfl rfl<|cx 3 [0,1,2] cal27 (slices_Sort_string.c hs (p0_:=v3)) nofun fun _ _=>.fin ?_
  refine WP.seq<|rg 2 0<|mv0 rfl rfl<|as0 rfl rfl<|.fin<|rt i2 rfl v3 3 [1,2,0] 0 (.cons (res_tmp rfl) .nil)
theorem slices_EqualFunc_Event_Event.c {k:Nat} {a0:List Event} {a1:List Event} {a2:Event→Event→Option Bool} {r:Bool} (h:slices_EqualFunc_Event_Event.f k a0 a1 a2 = some r):Pt Tryz.prog 16 [sl Event.K a0,sl Event.K a1,fq_api_Event_api_Event_bool a2] (vB r):=by
 unfold slices_EqualFunc_Event_Event.f at h
 refine pb Tryz.func16 Tryz.ntmps16 h fun R0 F H=>?_
 refine WP.seq<|rg 1 0<|as0 rfl rfl<|.fin<|WP.seq<|WP.seq<|rg 5 0<|mv0 rfl rfl<|Dv.lenl rfl trivial rfl Tryz.underlying33<|mv0 rfl rfl<|Dv.lenl rfl trivial rfl Tryz.underlying33<|bn0 rfl rfl rfl run_ne<|.fin<|cd H rfl (fun _ H=>?_) (fun _ H=>?_)
 ·
  refine WP.seq<|rg 1 0<|as0 rfl rfl<|.fin ?_
  cases H.out; exact r0 i2 rfl (.cons (res_tmp rfl) .nil)
 refine WP.skip<|WP.seqr H id (fun p663:Int×Bool=>[(0,sl Event.K a0),(1,sl Event.K a1),(2,fq_api_Event_api_Event_bool a2),(6,vB false),(14,vB ((a0.length:Int) != (a1.length:Int))),(15,sl Event.K a0),(16,vI (a0.length:Int)),(17,vI p663.1),(18,vB p663.2)]) (fun p663:Int×Bool=>F) (fun p663 H=>?_) (fun H=>?_)
 ·
  refine WP.seq<|rg 1 0<|as0 rfl rfl<|.fin ?_
  cases H.out; exact r0 i2 rfl (.cons (res_tmp rfl) .nil)
 refine WP.seq<|rg 3 0<|mv0 rfl rfl<|Dv.lenl rfl trivial rfl Tryz.underlying33<|mv0 rfl rfl<|.fin<|WP.block<|wg (sg 0 [] 0) fun _ _=>?_
 refine lp (fun j_ (p674:Int)=>slices_EqualFunc_Event_Event.l0 k a0 a1 a2 j_ p674) 0 H (fun p674=>[(0,sl Event.K a0),(1,sl Event.K a1),(2,fq_api_Event_api_Event_bool a2),(6,vB false),(14,vB ((a0.length:Int) != (a1.length:Int))),(15,sl Event.K a0),(16,vI (a0.length:Int)),(17,vI p674)]) (fun p674=>F) ?_
 rintro j_ x664 H
 rcases j_ with _ | j673
 ·
  exact (Gets.no H).elim
 replace H:Gets (slices_EqualFunc_Event_Event.l0 k a0 a1 a2 (j673 + 1) x664) _:=H
 rw [slices_EqualFunc_Event_Event.l0] at H
 refine WP.seq<|rg 1 0<|bn0 rfl rfl rfl run_lt<|.fin<|WP.seq<|cd H rfl (fun _ H=>?_) (fun _ H=>?_)
 rotate_left
 ·
  refine WP.exit ?_
  have H:=H.out
  exact jn (x664,decide (x664 < (a0.length:Int))) H
 refine WP.skip<|WP.seq<|WP.block<|WP.seq<|rg 6 40<|mv0 rfl rfl<|gr H fun g666 H=>Dv.ixr rfl trivial rfl rfl Tryz.underlying33 Tryz.underlying40 c40 g666.1 g666.2<|ldsR rfl trivial rfl sg40 rfl<|al rfl trivial zc40 nofun fun b667=>as0 rfl rfl<|sx 0 rfl trivial rfl rfl cA sz40 rfl rfl rfl nofun ?_
 refine .fin<|WP.seq<|rg 6 48<|mv0 rfl rfl<|mv0 rfl rfl<|gr H fun g668 H=>Dv.ixr rfl trivial rfl rfl Tryz.underlying33 Tryz.underlying40 c40 g668.1 g668.2<|ldsR rfl trivial rfl sg40 rfl<|al rfl trivial zc40 nofun fun b669=>sx 0 rfl trivial rfl rfl cA sz40 rfl rfl rfl nofun ?_
 refine .fin<|WP.seq<|rg 5 0<|mv0 rfl rfl<|lds 1 rfl trivial rfl sg40 rfl rfl<|lds 0 rfl trivial rfl sg40 rfl rfl<|el H fun t670 h671 H=>Dv.callq (ret:=vB t670) rfl trivial rfl rfl ⟨_,_,_,h671,rfl,rfl⟩<|un0 rfl rfl (run_not _)<|.fin<|cd H rfl (fun _ H=>?_) (fun _ H=>?_)
 rotate_left
 ·
  refine WP.skip<|rg 2 0<|bn0 rfl rfl rfl run_add<|mv0 rfl rfl<|.fin<|ng (sg 2 [0,1] 2) fun _ _=>?_
  exact bk j673 (w64 (x664 + 1)) H
 refine WP.seq<|rg 1 0<|as0 rfl rfl<|.fin ?_
 have H:=H.outr
 cases H.out; exact r2 i2 rfl (.cons (res_tmp rfl) .nil)
theorem cmp_Or_int.c {k:Nat} {a0:List Int} {r:Int} (h:cmp_Or_int.f k a0 = some r):Pt Tryz.prog 83 [sl (intK .i64) a0] (vI r):=by
 unfold cmp_Or_int.f at h
 refine pb Tryz.func83 Tryz.ntmps83 h fun R0 F H=>?_
 refine WP.seq<|rg 1 0<|as0 rfl rfl<|.fin<|WP.seq<|rg 1 0<|as0 rfl rfl<|.fin<|WP.seqr H id (fun p675:Int×Bool=>[(0,sl (intK .i64) a0),(2,vI 0),(3,vI 0),(6,sl (intK .i64) a0),(7,vI (a0.length:Int)),(8,vI p675.1),(9,vB p675.2)]) (fun p675:Int×Bool=>F) (fun p675 H=>?_) (fun H=>?_)
 ·
  refine WP.seq<|rg 2 0<|mv0 rfl rfl<|as0 rfl rfl<|.fin ?_
  cases H.out; exact r0 i2 rfl (.cons (res_tmp rfl) .nil)
 refine WP.seq<|rg 3 0<|mv0 rfl rfl<|Dv.lenl rfl trivial rfl Tryz.underlying72<|mv0 rfl rfl<|.fin<|WP.block<|wg (sg 0 [] 0) fun _ _=>?_
 refine lp (fun j_ (p681:Int)=>cmp_Or_int.l0 k a0 j_ p681) 0 H (fun p681=>[(0,sl (intK .i64) a0),(2,vI 0),(3,vI 0),(6,sl (intK .i64) a0),(7,vI (a0.length:Int)),(8,vI p681)]) (fun p681=>F) ?_
 rintro j_ x676 H
 rcases j_ with _ | j680
 ·
  exact (Gets.no H).elim
 replace H:Gets (cmp_Or_int.l0 k a0 (j680 + 1) x676) _:=H
 rw [cmp_Or_int.l0] at H
 refine WP.seq<|rg 1 0<|bn0 rfl rfl rfl run_lt<|.fin<|WP.seq<|cd H rfl (fun _ H=>?_) (fun _ H=>?_)
 rotate_left
 ·
  refine WP.exit ?_
  have H:=H.out
  exact jn (x676,decide (x676 < (a0.length:Int))) H
 refine WP.skip<|WP.seq<|WP.block<|WP.seq<|rg 3 0<|gr H fun g678 H=>Dv.ixr rfl trivial rfl rfl Tryz.underlying72 Tryz.underlying3 c3 g678.1 g678.2<|ldR rfl trivial rfl sc3 rfl<|as0 rfl rfl<|.fin<|WP.seq<|rg 3 0<|mv0 rfl rfl<|mv0 rfl rfl<|bn0 rfl rfl rfl run_ne<|.fin<|cd H rfl (fun _ H=>?_) (fun _ H=>?_)
 rotate_left
 ·
  exact WP.skip<|rg 2 0<|bn0 rfl rfl rfl run_add<|mv0 rfl rfl<|.fin<|bk j680 (w64 (x676 + 1)) H
 refine WP.seq<|rg 2 0<|mv0 rfl rfl<|as0 rfl rfl<|.fin ?_
 have H:=H.outr
 cases H.out; exact r0 i2 rfl (.cons (res_tmp rfl) .nil)
theorem cmp_isNaN_int.c {a0:Int} {r:Bool} (h:cmp_isNaN_int.f a0 = some r):Pt Tryz.prog 103 [vI a0] (vB r):=by
 unfold cmp_isNaN_int.f at h
 refine pb Tryz.func103 Tryz.ntmps103 h fun R0 F H=>?_
 refine WP.seq<|rg 1 0<|as0 rfl rfl<|.fin<|WP.seq<|rg 4 0<|mv0 rfl rfl<|mv0 rfl rfl<|bn0 rfl rfl rfl run_ne<|as0 rfl rfl<|.fin ?_
 cases H.out; exact r0 i2 rfl (.cons (res_tmp rfl) .nil)
theorem cmp_Compare_int.c {a0:Int} {a1:Int} {r:Int} (h:cmp_Compare_int.f a0 a1 = some r):Pt Tryz.prog 84 [vI a0,vI a1] (vI r):=by
 unfold cmp_Compare_int.f at h
 refine pb Tryz.func84 Tryz.ntmps84 h fun R0 F H=>?_
 refine WP.seq<|rg 1 0<|as0 rfl rfl<|.fin<|WP.seq<|rg 3 0<|mv0 rfl rfl<|el H fun t682 h683 H=>cl rfl cal103 rfl (cmp_isNaN_int.c h683)<|as0 rfl rfl<|.fin<|WP.seq<|rg 3 0<|mv0 rfl rfl<|el H fun t684 h685 H=>cl rfl cal103 rfl (cmp_isNaN_int.c h685)<|as0 rfl rfl<|.fin<|WP.seq<|WP.seq<|rg 1 0<|mv0 rfl rfl<|.fin<|cd H rfl (fun _ H=>?_) (fun _ H=>?_)
 ·
  refine WP.seq<|WP.seq<|rg 1 0<|mv0 rfl rfl<|.fin<|cd H rfl (fun _ H=>?_) (fun _ H=>?_)
  ·
   refine WP.seq<|rg 1 0<|as0 rfl rfl<|.fin ?_
   cases H.out; exact r0 i2 rfl (.cons (res_tmp rfl) .nil)
  refine WP.skip<|WP.seq<|rg 1 0<|as0 rfl rfl<|.fin ?_
  cases H.out; exact r0 i2 rfl (.cons (res_tmp rfl) .nil)
 refine WP.skip<|WP.seq<|WP.seq<|rg 1 0<|mv0 rfl rfl<|.fin<|cd H rfl (fun _ H=>?_) (fun _ H=>?_)
 ·
  refine WP.seq<|rg 1 0<|as0 rfl rfl<|.fin ?_
  cases H.out; exact r0 i2 rfl (.cons (res_tmp rfl) .nil)
 refine WP.skip<|WP.seq<|WP.seq<|rg 3 0<|mv0 rfl rfl<|mv0 rfl rfl<|bn0 rfl rfl rfl run_lt<|.fin<|cd H rfl (fun _ H=>?_) (fun _ H=>?_)
 ·
  refine WP.seq<|rg 1 0<|as0 rfl rfl<|.fin ?_
  cases H.out; exact r0 i2 rfl (.cons (res_tmp rfl) .nil)
 refine WP.skip<|WP.seq<|WP.seq<|rg 3 0<|mv0 rfl rfl<|mv0 rfl rfl<|bn0 rfl rfl rfl run_gt<|.fin<|cd H rfl (fun _ H=>?_) (fun _ H=>?_)
 ·
  refine WP.seq<|rg 1 0<|as0 rfl rfl<|.fin ?_
  cases H.out; exact r0 i2 rfl (.cons (res_tmp rfl) .nil)
 refine WP.skip<|WP.seq<|rg 1 0<|as0 rfl rfl<|.fin ?_
 cases H.out; exact r0 i2 rfl (.cons (res_tmp rfl) .nil)
theorem cmp_isNaN_string.c {a0:ByteArray} {r:Bool} (h:cmp_isNaN_string.f a0 = some r):Pt Tryz.prog 81 [vS a0] (vB r):=by
 unfold cmp_isNaN_string.f at h
 refine pb Tryz.func81 Tryz.ntmps81 h fun R0 F H=>?_
 refine WP.seq<|rg 1 0<|as0 rfl rfl<|.fin<|WP.seq<|rg 4 0<|mv0 rfl rfl<|mv0 rfl rfl<|bn0 rfl rfl rfl run_sne<|as0 rfl rfl<|.fin ?_
 cases H.out; exact r0 i2 rfl (.cons (res_tmp rfl) .nil)
theorem cmp_Compare_string.c {a0:ByteArray} {a1:ByteArray} {r:Int} (h:cmp_Compare_string.f a0 a1 = some r):Pt Tryz.prog 85 [vS a0,vS a1] (vI r):=by
 unfold cmp_Compare_string.f at h
 refine pb Tryz.func85 Tryz.ntmps85 h fun R0 F H=>?_
 refine WP.seq<|rg 1 0<|as0 rfl rfl<|.fin<|WP.seq<|rg 3 0<|mv0 rfl rfl<|el H fun t691 h692 H=>cl rfl cal81 rfl (cmp_isNaN_string.c h692)<|as0 rfl rfl<|.fin<|WP.seq<|rg 3 0<|mv0 rfl rfl<|el H fun t693 h694 H=>cl rfl cal81 rfl (cmp_isNaN_string.c h694)<|as0 rfl rfl<|.fin<|WP.seq<|WP.seq<|rg 1 0<|mv0 rfl rfl<|.fin<|cd H rfl (fun _ H=>?_) (fun _ H=>?_)
 ·
  refine WP.seq<|WP.seq<|rg 1 0<|mv0 rfl rfl<|.fin<|cd H rfl (fun _ H=>?_) (fun _ H=>?_)
  ·
   refine WP.seq<|rg 1 0<|as0 rfl rfl<|.fin ?_
   cases H.out; exact r0 i2 rfl (.cons (res_tmp rfl) .nil)
  refine WP.skip<|WP.seq<|rg 1 0<|as0 rfl rfl<|.fin ?_
  cases H.out; exact r0 i2 rfl (.cons (res_tmp rfl) .nil)
 refine WP.skip<|WP.seq<|WP.seq<|rg 1 0<|mv0 rfl rfl<|.fin<|cd H rfl (fun _ H=>?_) (fun _ H=>?_)
 ·
  refine WP.seq<|rg 1 0<|as0 rfl rfl<|.fin ?_
  cases H.out; exact r0 i2 rfl (.cons (res_tmp rfl) .nil)
 refine WP.skip<|WP.seq<|WP.seq<|rg 3 0<|mv0 rfl rfl<|mv0 rfl rfl<|bn0 rfl rfl rfl run_slt<|.fin<|cd H rfl (fun _ H=>?_) (fun _ H=>?_)
 ·
  refine WP.seq<|rg 1 0<|as0 rfl rfl<|.fin ?_
  cases H.out; exact r0 i2 rfl (.cons (res_tmp rfl) .nil)
 refine WP.skip<|WP.seq<|WP.seq<|rg 3 0<|mv0 rfl rfl<|mv0 rfl rfl<|bn0 rfl rfl rfl run_sgt<|.fin<|cd H rfl (fun _ H=>?_) (fun _ H=>?_)
 ·
  refine WP.seq<|rg 1 0<|as0 rfl rfl<|.fin ?_
  cases H.out; exact r0 i2 rfl (.cons (res_tmp rfl) .nil)
 refine WP.skip<|WP.seq<|rg 1 0<|as0 rfl rfl<|.fin ?_
 cases H.out; exact r0 i2 rfl (.cons (res_tmp rfl) .nil)
theorem dag_Compare.c {k:Nat} {a0:Pos} {a1:Pos} {r:Int} (h:dag_Compare.f k a0 a1 = some r):Pt Tryz.prog 70 [agg (Pos.enc a0),agg (Pos.enc a1)] (vI r):=by
 unfold dag_Compare.f at h
 refine pb Tryz.func70 Tryz.ntmps70 h fun R0 F H=>?_
 refine WP.seq<|rg 3 3<|Dv.box rfl trivial rfl cA nofun fun b700=>Dv.box rfl trivial rfl cA nofun fun b701=>as0 rfl rfl<|.fin<|WP.seq<|dg Tryz.checked.mixed 13 0<|fb rfl trivial rfl fa68_0<|ld 1 rfl trivial rfl sc3 rfl rfl<|fb rfl trivial rfl fa68_0<|ld 0 rfl trivial rfl sc3 rfl rfl<|el H fun t702 h703 H=>cl rfl cal84 rfl (cmp_Compare_int.c h703)<|fb rfl trivial rfl fa68_1<|ld 1 rfl trivial rfl sc9 rfl rfl<|fb rfl trivial rfl fa68_1<|ld 0 rfl trivial rfl sc9 rfl rfl<|el H fun t704 h705 H=>cl rfl cal85 rfl (cmp_Compare_string.c h705)<|Dv.lit (intK .i64) ([t702,t704]:List Int) (css:=[[vI t702],[vI t704]]) rfl trivial Tryz.underlying72 Tryz.underlying3 c3 z3 rfl (by decide) (by decide) rfl ⟨(cells_one (one_eq rfl)),⟨(cells_one (one_eq rfl)),trivial⟩⟩ rfl rfl rfl<|el H fun t706 h707 H=>cl rfl cal83 rfl (cmp_Or_int.c h707)<|as0 rfl rfl<|.fin ?_
 cases H.out; exact r2 i2 rfl (.cons (res_tmp rfl) .nil)
theorem posC_f (x y:Pos):dag_Compare.f 8 x y = some (posC x y):=by
 unfold dag_Compare.f cmp_Compare_int.f cmp_Compare_string.f cmp_isNaN_int.f cmp_isNaN_string.f cmp_Or_int.f posC cmpS
 simp only [Option.bind_some,bne_self_eq_false,decide_true,Bool.not_true,cond_false]
 rcases Int.lt_trichotomy x.fDepth y.fDepth with h | h | h
 ·
  have h2:¬ y.fDepth < x.fDepth:=by omega
  simp only [h,decide_true,cond_true,Option.bind_some,if_true]
  cases sLt x.fID y.fID <;> cases sLt y.fID x.fID <;> rfl
 rotate_left
 ·
  have h1:¬ x.fDepth < y.fDepth:=by omega
  simp only [h,h1,decide_true,decide_false,cond_true,cond_false,Option.bind_some,if_true,if_false]
  cases sLt x.fID y.fID <;> cases sLt y.fID x.fID <;> rfl
 have h1:¬ x.fDepth < y.fDepth:=by omega
 have h2:¬ y.fDepth < x.fDepth:=by omega
 simp only [h1,h2,decide_false,cond_false,Option.bind_some,if_false]
 cases sLt x.fID y.fID <;> cases sLt y.fID x.fID <;> rfl
theorem posC_lt (x y:Pos):ltOf posC x y = true↔x.fDepth < y.fDepth∨(x.fDepth = y.fDepth∧sLt x.fID y.fID = true):=by
 unfold ltOf posC
 rw [decide_eq_true_eq]
 by_cases h:x.fDepth < y.fDepth
 ·
  simp [h]
 by_cases h2:y.fDepth < x.fDepth
 ·
  rw [if_neg h,if_pos h2]; constructor
  ·
   intro k; omega
  rintro (k | ⟨k,_⟩) <;> omega
 rw [if_neg h,if_neg h2,cmpS_lt]; constructor
 ·
  intro k; exact .inr ⟨by omega,k⟩
 rintro (k | ⟨_,k⟩)
 ·
  omega
 exact k
theorem posC_nlt (x y:Pos):ltOf posC x y = false↔y.fDepth < x.fDepth∨(x.fDepth = y.fDepth∧sLt x.fID y.fID = false):=by
  have h:=posC_lt x y
  cases e:ltOf posC x y with
  | true=>
    have h:=h.1 e
    refine ⟨fun k=>(by cases k),fun k=>?_⟩
    rcases h with h | ⟨h1,h2⟩ <;> rcases k with k | ⟨k1,k2⟩
    · omega
    · omega
    · omega
    · rw [h2] at k2; cases k2
  | false=>
    refine ⟨fun _=>?_,fun _=>rfl⟩
    rw [e] at h
    have h:¬ _:=fun k=>by have:=h.2 k; cases this
    rcases Int.lt_trichotomy x.fDepth y.fDepth with k | k | k
    · exact (h (.inl k)).elim
    · cases e2:sLt x.fID y.fID with
      | true=>exact (h (.inr ⟨k,e2⟩)).elim
      | false=>exact .inr ⟨k,rfl⟩
    · exact .inl k
theorem posC_swo:Go.Sort.SWO (ltOf posC) where
  irrefl x:=by rw [posC_nlt]; exact .inr ⟨rfl,sLt_irrefl _⟩
  trans x y z h1 h2:=by
    rw [posC_lt] at *
    rcases h1 with h1 | ⟨h1,k1⟩ <;> rcases h2 with h2 | ⟨h2,k2⟩
    · exact .inl (by omega)
    · exact .inl (by omega)
    · exact .inl (by omega)
    · exact .inr ⟨by omega,sLt_trans k1 k2⟩
  ntrans x y z h1 h2:=by
    rw [posC_nlt] at *
    rcases h1 with h1 | ⟨h1,k1⟩ <;> rcases h2 with h2 | ⟨h2,k2⟩
    · exact .inl (by omega)
    · exact .inl (by omega)
    · exact .inl (by omega)
    · exact .inr ⟨by omega,sLt_ntrans k2 k1⟩
theorem posC_tot (x y:Pos) (h1:ltOf posC x y = false) (h2:ltOf posC y x = false):x = y:=by
 rw [posC_nlt] at *
 rcases h1 with h1 | ⟨h1,k1⟩ <;> rcases h2 with h2 | ⟨h2,k2⟩
 ·
  omega
 ·
  omega
 ·
  omega
 obtain ⟨a,b⟩:=x; obtain ⟨c,d⟩:=y
 simp only at h1 k1 k2
 rw [h1,sLt_conn k1 k2]
theorem slices_SortFunc_Position.c {a0:List Pos} {p0_:OV} {r:List Pos} (h:slices_SortFunc_Position.f a0 = some r):Tr Tryz.prog 69 [eq p0_.1,eq (.func (.func 70) #[] #[])] [own Pos.K p0_.1 a0] (γ:=Unit) (fun _=>True) (fun g=>tup []) (fun g=>[own Pos.K p0_.1 r]):=by
 unfold slices_SortFunc_Position.f at h
 obtain ⟨h0,h5⟩:=(Gets.of h).grd
 obtain rfl:=Gets.out h5
 exact sortf_tr (K:=Pos.K) (ev:=fun x=>[.int .i64 x.fDepth,.string x.fID]) (fun _=>rfl) (by decide) (fun x y=>dag_Compare.c (posC_f x y)) (fun blk off cap d w hc hH hb hs=>AnyQ.slices_SortFunc_total Tryz.lays6 2 Tryz.isAgg68 Tryz.sizeOf68 _ (fun _=>rfl) (fun x v hv=>by simp at hv; rcases hv with rfl | rfl <;> rfl) posC posC_swo 70 #[] blk off cap d w (enters_of Tryz.func70 (by kernel_rfl) rfl) hc hH hb hs posC_tot) (fun q cap w=>AnyF.slices_SortFunc_none Tryz.lays6 q cap _ w) (by omega)
theorem dag_Dag_All_1.c {a0:DNode} {b0_:Nat} {r:Bool} (h:dag_Dag_All_1.f a0 = some r):Tr Tryz.prog 47 [eq (.pointer (some ⟨b0_,0,none⟩))] [blk b0_ 85 [vS a0.fe.fID,vS a0.fe.fRoom,sl strK a0.fe.fParents,vS a0.fe.fThread,vS a0.fe.fUser,vI a0.fe.fDoes,vI a0.fdepth,vB a0.fparent]] (γ:=Unit) (fun _=>True) (fun g=>vB r) (fun g=>[blk b0_ 85 [vS a0.fe.fID,vS a0.fe.fRoom,sl strK a0.fe.fParents,vS a0.fe.fThread,vS a0.fe.fUser,vI a0.fe.fDoes,vI a0.fdepth,vB a0.fparent]]):=by
 unfold dag_Dag_All_1.f at h
 refine Tr.body Tryz.func47 (c:=_) rfl Tryz.ntmps47 (Nat.le_of_ble_eq_true rfl) fun R0 F=>?_
 replace h:=Gets.of h
 have H:=h
 clear h
 refine WP.seq<|rg 1 0<|as0 rfl rfl<|.fin<|WP.seq<|rg 1 0<|as0 rfl rfl<|.fin ?_
 cases H.out; exact rt i2 rfl () 1 [0] 0 (.cons (res_tmp rfl) .nil)
theorem dag_Dag_ids_All.c {a0:DDag} {b0_:Nat} {v0_0:OV} {r:List ByteArray} (h:dag_Dag_ids_All.f a0 = some r):Tr Tryz.prog 46 [eq (.pointer (some ⟨b0_,0,none⟩)),eq (.func (.func 47) #[] #[])] [blk b0_ 82 [vS a0.froom,eq v0_0.1],mpo Value.string DNode.O v0_0.1 a0.fnodes] (γ:=OV) (fun _=>True) (fun g=>eq g.1) (fun g=>[blk b0_ 82 [vS a0.froom,eq v0_0.1],mpo Value.string DNode.O v0_0.1 a0.fnodes,own strK g.1 r]):=by
  unfold dag_Dag_ids_All.f at h
  obtain ⟨h0,h5⟩:=(Gets.of h).grd
  obtain rfl:=Gets.out h5
  clear h h5
  refine Tr.body Tryz.func46 (c:=_) rfl Tryz.ntmps46 (Nat.le_of_ble_eq_true rfl) fun R0 F=>?_
  refine WP.seq<|rg 1 0<|as0 rfl rfl<|.fin<|WP.seq<|rg 1 0<|as0 rfl rfl<|.fin ?_
  refine WP.seqj (β:=List Nat×OV) (fun b=>b.1.Perm (List.range a0.fnodes.length)) (fun b=>[(5,eq b.2.1),(1,eq (.func (.func 47) #[] #[]))]) (fun b=>[own Pos.K b.2.1 (selM a0.fnodes dag_Dag_ids_All.g b.1),mpo Value.string DNode.O v0_0.1 a0.fnodes,blk b0_ 82 [vS a0.froom,eq v0_0.1]]++F) (fun b hb=>?_) ?_
  rotate_left
  · refine WP.seq<|rg 5 16<|mv0 rfl rfl<|Dv.nilp rfl trivial rfl<|fb rfl trivial rfl fa82_1<|ld 0 rfl trivial rfl sc80 rfl rfl ?_
    refine Dv.gh (l':=fun ps:List OV=>[mp Value.string (fun p:OV=>eq p.1) v0_0.1 (zipK a0.fnodes ps),thg DNode.O a0.fnodes ps,blk b0_ 82 [vS a0.froom,eq v0_0.1]]++F) (gh_of (mpo_opn 1 rfl)) (fun ps hps=>?_)
    refine Dv.rgb (jj:=0) rfl trivial rfl rfl Tryz.underlying80 nofun (fun q=>.fin ?_)
    refine WP.gh (l':=fun _:Unit=>[rng Value.string (fun p:OV=>eq p.1) v0_0.1 q.1 (zipK a0.fnodes ps) [],thg DNode.O a0.fnodes ps,blk b0_ 82 [vS a0.froom,eq v0_0.1]]++F) (gh_of (ok:=fun _=>True) fun R w k=>⟨(),trivial,k⟩) (fun _ _=>?_)
    refine WP.gh (l':=fun _:Unit=>[own Pos.K nilV.1 [],rng Value.string (fun p:OV=>eq p.1) v0_0.1 q.1 (zipK a0.fnodes ps) [],thg DNode.O a0.fnodes ps,blk b0_ 82 [vS a0.froom,eq v0_0.1]]++F) (gh_of (st_nil Pos.K none)) (fun _ _=>?_)
    refine WP.block ?_
    refine WP.weak (E':=(fun b:List Nat×OV=>[(5,eq b.2.1),(15,eq q.1),(1,eq (.func (.func 47) #[] #[]))]) ([],nilV)) (weak_cons rfl (weak_cons rfl (weak_cons rfl weak_nil))) (WP.loop (β:=List Nat×OV) (fun k b=>b.1.length + k = a0.fnodes.length) (fun b=>[(5,eq b.2.1),(15,eq q.1),(1,eq (.func (.func 47) #[] #[]))]) (fun b=>[own Pos.K b.2.1 (selM a0.fnodes dag_Dag_ids_All.g b.1),rng Value.string (fun p:OV=>eq p.1) v0_0.1 q.1 (zipK a0.fnodes ps) b.1,thg DNode.O a0.fnodes ps,blk b0_ 82 [vS a0.froom,eq v0_0.1]]++F) ?_ (k:=a0.fnodes.length) (b:=([],nilV)) (Nat.zero_add _))
    rintro k ⟨is,v⟩ hk
    replace hk:is.length + k = a0.fnodes.length:=hk
    refine WP.seq<|rg 2 1<|Dv.rgn (jj:=1) rfl trivial rfl rfl nofun (fun z hz=>?_)
    rcases z with _ | j
    · have hz:is.Perm (List.range (zipK a0.fnodes ps).length):=hz
      rw [zipK_len hps.1] at hz
      refine ex0 rfl trivial rfl rfl<|.fin<|WP.seq<|WP.cond rfl nofun (fun _=>WP.exit ?_)
      refine Dn.gh (l':=fun _:Unit=>[own Pos.K v.1 (selM a0.fnodes dag_Dag_ids_All.g is),rng Value.string (fun p:OV=>eq p.1) v0_0.1 q.1 (zipK a0.fnodes ps) is,thg DNode.O a0.fnodes ps,blk b0_ 82 [vS a0.froom,eq v0_0.1]]++F) (gh_of (ok:=fun _=>True) fun R w k=>⟨(),trivial,k⟩) (fun _ _=>?_)
      refine Dn.gh (l':=fun _:Unit=>[mp Value.string (fun p:OV=>eq p.1) v0_0.1 (zipK a0.fnodes ps),own Pos.K v.1 (selM a0.fnodes dag_Dag_ids_All.g is),thg DNode.O a0.fnodes ps,blk b0_ 82 [vS a0.froom,eq v0_0.1]]++F) (gh_of (st_rge (pm 4 [1,0,2,3]))) (fun _ _=>?_)
      refine Dn.gh (l':=fun _:Unit=>[mpo Value.string DNode.O v0_0.1 a0.fnodes,own Pos.K v.1 (selM a0.fnodes dag_Dag_ids_All.g is),blk b0_ 82 [vS a0.froom,eq v0_0.1]]++F) (gh_of (mpo_shut hps rfl (pm 4 [0,2,1,3]))) (fun _ _=>?_)
      exact Jn.mk (is,v) hz (weak_cons rfl (weak_cons rfl weak_nil)) (perm_ton 3 [1,0,2] (by kernel_rfl) rfl rfl)
    have hz:j < (zipK a0.fnodes ps).length∧j ∉ is∧is.length < (zipK a0.fnodes ps).length:=hz
    obtain ⟨e,p,he,hp,hep⟩:=zipK_get hps hz.1
    have hlt:is.length < a0.fnodes.length:=by rw [← zipK_len hps.1]; exact hz.2.2
    have hsl:=Nat.le_trans (selM_len (m:=a0.fnodes) (f:=dag_Dag_ids_All.g) (is:=is)) (Nat.le_of_lt hlt)
    have e1:nxV Value.string (fun p:OV=>eq p.1) (zipK a0.fnodes ps) (some j) = tup [vB true,vS e.1,eq p.1]:=by simp only [nxV,hep]
    rw [e1]
    refine ex0 rfl trivial rfl rfl<|.fin<|WP.seq<|WP.cond rfl (fun _=>WP.skip ?_) nofun
    refine WP.gh (l':=fun _:Unit=>[own Pos.K v.1 (selM a0.fnodes dag_Dag_ids_All.g is),rng Value.string (fun p:OV=>eq p.1) v0_0.1 q.1 (zipK a0.fnodes ps) (is++[j]),thg DNode.O a0.fnodes ps,blk b0_ 82 [vS a0.froom,eq v0_0.1]]++F) (gh_of (ok:=fun _=>True) fun R w k=>⟨(),trivial,k⟩) (fun _ _=>?_)
    refine WP.block<|WP.seq<|rg 5 0<|Dv.rge 1 rfl trivial rfl rfl hep ?_
    refine ex0 rfl trivial rfl rfl<|ex0 rfl trivial rfl rfl<|as0 rfl rfl<|as0 rfl rfl<|.fin ?_
    refine WP.gh (l':=fun _:Unit=>[DNode.O p e.2,thgX DNode.O a0.fnodes ps j,own Pos.K v.1 (selM a0.fnodes dag_Dag_ids_All.g is),rng Value.string (fun p:OV=>eq p.1) v0_0.1 q.1 (zipK a0.fnodes ps) (is++[j]),blk b0_ 82 [vS a0.froom,eq v0_0.1]]++F) (gh_of (thg_foc he hp (pm 4 [2,0,1,3]))) (fun _ _=>?_)
    refine WP.gh (l':=fun b:Nat=>[blk b 85 [vS e.2.fe.fID,vS e.2.fe.fRoom,sl strK e.2.fe.fParents,vS e.2.fe.fThread,vS e.2.fe.fUser,vI e.2.fe.fDoes,vI e.2.fdepth,vB e.2.fparent],thgX DNode.O a0.fnodes ps j,own Pos.K v.1 (selM a0.fnodes dag_Dag_ids_All.g is),rng Value.string (fun p:OV=>eq p.1) v0_0.1 q.1 (zipK a0.fnodes ps) (is++[j]),blk b0_ 82 [vS a0.froom,eq v0_0.1]]++F) (gh_of (DNode.opn 0 rfl)) (fun b hb=>?_)
    refine WP.seq<|rg 3 0<|mv0 rfl rfl<|mv0 rfl rfl<|Dv.callc (fst:=#[]) (B:=[blk b 85 [vS e.2.fe.fID,vS e.2.fe.fRoom,sl strK e.2.fe.fParents,vS e.2.fe.fThread,vS e.2.fe.fUser,vI e.2.fe.fDoes,vI e.2.fdepth,vB e.2.fparent]]) (F:=[thgX DNode.O a0.fnodes ps j,own Pos.K v.1 (selM a0.fnodes dag_Dag_ids_All.g is),rng Value.string (fun p:OV=>eq p.1) v0_0.1 q.1 (zipK a0.fnodes ps) (is++[j]),blk b0_ 82 [vS a0.froom,eq v0_0.1]]++F) rfl trivial rfl cal47 rfl (Tr.weak (dag_Dag_All_1.c (a0:=e.2) (b0_:=b) (r:=true) rfl) (.cons (wk_ptr hb) .nil)) (List.Perm.refl _)<|.fin ?_
    refine WP.cond rfl (fun c1=>?_) (fun c1=>?_)
    · have hg:dag_Dag_ids_All.g e = some ⟨e.2.fdepth,e.1⟩:=by unfold dag_Dag_ids_All.g; rw [c1]; rfl
      have e6:=selM_some (f:=dag_Dag_ids_All.g) (is:=is) he hg
      have hbd:(selM a0.fnodes dag_Dag_ids_All.g is).length + ([⟨e.2.fdepth,e.1⟩]:List Pos).length≤9223372036854775807∧((selM a0.fnodes dag_Dag_ids_All.g is).length + ([⟨e.2.fdepth,e.1⟩]:List Pos).length) * 24≤140737488355328:=by rw [List.length_singleton]; omega
      refine rg 10 256<|mv0 rfl rfl<|mv0 rfl rfl<|Dv.nilpp hb rfl trivial rfl<|fp hb rfl trivial rfl fa85_1<|ld 0 rfl trivial rfl sc3 rfl rfl<|mv0 rfl rfl<|Dv.bld (css:=[[vI e.2.fdepth],[vS e.1]]) rfl trivial Tryz.underlying68 pl68 z68 rfl ⟨(cells_one (one_eq rfl)),⟨(cells_one (one_eq rfl)),trivial⟩⟩ rfl rfl<|Dv.lit Pos.K ([⟨e.2.fdepth,e.1⟩]:List Pos) (css:=[[vI e.2.fdepth,vS e.1]]) rfl trivial Tryz.underlying108 Tryz.underlying68 c68 z68 rfl (by decide) (by decide) rfl ⟨cA,trivial⟩ rfl rfl rfl<|ap Pos.K 2 ([⟨e.2.fdepth,e.1⟩]:List Pos) src_sl Tryz.underlying108 (.inr ⟨_,Tryz.underlying108⟩) inf68 hbd nofun fun v9=>as0 rfl rfl<|.fin ?_
      refine Dn.gh (l':=fun _:Unit=>[DNode.O p e.2,thgX DNode.O a0.fnodes ps j,own Pos.K v9.1 ((selM a0.fnodes dag_Dag_ids_All.g is)++([⟨e.2.fdepth,e.1⟩]:List Pos)),rng Value.string (fun p:OV=>eq p.1) v0_0.1 q.1 (zipK a0.fnodes ps) (is++[j]),blk b0_ 82 [vS a0.froom,eq v0_0.1]]++F) (gh_of (DNode.shut (p:=p) (m:=e.2) b hb (List.Perm.refl _))) (fun _ _=>?_)
      refine Dn.gh (l':=fun _:Unit=>[thg DNode.O a0.fnodes ps,own Pos.K v9.1 ((selM a0.fnodes dag_Dag_ids_All.g is)++([⟨e.2.fdepth,e.1⟩]:List Pos)),rng Value.string (fun p:OV=>eq p.1) v0_0.1 q.1 (zipK a0.fnodes ps) (is++[j]),blk b0_ 82 [vS a0.froom,eq v0_0.1]]++F) (gh_of (thg_unf he hp (List.Perm.refl _))) (fun _ _=>?_)
      rw [e6]
      exact Back.mk (k - 1) (is++[j],v9) (by omega) (by show (is++[j]).length + (k - 1) = _; rw [List.length_append,List.length_singleton]; omega) (weak_cons rfl (weak_cons rfl (weak_cons rfl weak_nil))) (perm_ton 4 [1,2,0,3] (by kernel_rfl) rfl rfl)
    cases c1
  obtain ⟨is,v5⟩:=b
  replace hb:is.Perm (List.range a0.fnodes.length):=hb
  have hp:=selM_perm (f:=dag_Dag_ids_All.g) hb
  have hs:slices_SortFunc_Position.f (selM a0.fnodes dag_Dag_ids_All.g is) = some (srtF posC (a0.fnodes.filterMap dag_Dag_ids_All.g)):=by
    unfold slices_SortFunc_Position.f Sp.grd
    rw [if_pos (by rw [hp.length_eq]; exact Nat.le_trans (List.length_filterMap_le _ _) h0),srtF_perm posC_swo posC_tot hp]
  have hS:(srtF posC (a0.fnodes.filterMap dag_Dag_ids_All.g)).length≤1000000:=by unfold srtF; rw [List.length_mergeSort]; exact Nat.le_trans (List.length_filterMap_le _ _) h0
  refine WP.seq<|rg 2 2<|mv0 rfl rfl<|cx 3 [0,1,2] cal69 (slices_SortFunc_Position.c hs (p0_:=v5)) nofun fun _ _=>.fin ?_
  generalize srtF posC (a0.fnodes.filterMap dag_Dag_ids_All.g) = S at hS
  refine WP.seq<|rg 1 0<|as0 rfl rfl<|.fin ?_
  refine WP.seqj (β:=OV) (fun _=>True) (fun v=>[(8,eq v.1)]) (fun v=>[own strK v.1 (S.map (·.fID)),own Pos.K v5.1 S,mpo Value.string DNode.O v0_0.1 a0.fnodes,blk b0_ 82 [vS a0.froom,eq v0_0.1]]++F) (fun v _=>?_) ?_
  · refine WP.seq<|rg 2 0<|mv0 rfl rfl<|as0 rfl rfl<|.fin<|rt i2 rfl v 4 [1,3,2,0] 1 (.cons (res_tmp rfl) .nil)
  refine WP.seq<|rg 3 0<|mv0 rfl rfl<|Dv.lenw (Kd:=Pos.K) (xs:=S) (v:=v5.1) rfl trivial rfl (mem_at 0 rfl) Tryz.underlying108<|mv0 rfl rfl<|.fin ?_
  refine WP.gh (l':=fun _:Unit=>[own strK nilV.1 [],own Pos.K v5.1 S,mpo Value.string DNode.O v0_0.1 a0.fnodes,blk b0_ 82 [vS a0.froom,eq v0_0.1]]++F) (gh_of (st_nil strK none)) (fun _ _=>?_)
  refine WP.block ?_
  refine WP.weak (E':=(fun b:Nat×OV=>[(8,eq b.2.1),(35,eq v5.1),(36,vI (S.length:Int)),(37,vI (b.1:Int))]) (0,nilV)) (weak_cons rfl (weak_cons rfl (weak_cons rfl (weak_cons rfl weak_nil)))) (WP.loop (β:=Nat×OV) (fun k b=>b.1 + k = S.length) (fun b=>[(8,eq b.2.1),(35,eq v5.1),(36,vI (S.length:Int)),(37,vI (b.1:Int))]) (fun b=>[own strK b.2.1 ((S.take b.1).map (·.fID)),own Pos.K v5.1 S,mpo Value.string DNode.O v0_0.1 a0.fnodes,blk b0_ 82 [vS a0.froom,eq v0_0.1]]++F) ?_ (k:=S.length) (b:=(0,nilV)) (Nat.zero_add _))
  rintro k ⟨j,v8⟩ hk
  replace hk:j + k = S.length:=hk
  refine WP.seq<|rg 1 0<|bn0 rfl rfl rfl run_lt<|.fin<|WP.seq<|WP.cond rfl (fun c2=>WP.skip ?_) (fun c2=>WP.exit ?_)
  rotate_left
  · have c3:¬ ((j:Int) < (S.length:Int)):=of_decide_eq_false c2
    have e3:S.take j = S:=List.take_of_length_le (by omega)
    change ∀ R a w,R0.le R→Agr _ R a _→St R ([own strK v8.1 ((S.take j).map (·.fID)),own Pos.K v5.1 S,mpo Value.string DNode.O v0_0.1 a0.fnodes,blk b0_ 82 [vS a0.froom,eq v0_0.1]]++F) w→_
    rw [e3]
    exact Jn.mk v8 trivial (weak_cons rfl weak_nil) (List.Perm.refl _)
  have c3:(j:Int) < (S.length:Int):=of_decide_eq_true c2
  have hj:j < S.length:=by omega
  refine WP.seq<|WP.block<|WP.seq<|rg 4 12<|Dv.ixw rfl trivial rfl (mem_at 1 rfl) rfl Tryz.underlying108 Tryz.underlying68 c68 (by omega) c3<|Dv.ldws (j:=j) (f:=0) rfl trivial rfl (mem_at 1 rfl) hj Tryz.underlying68 rfl c68 (Nat.le_of_ble_eq_true rfl)<|al rfl trivial zc68 nofun fun b=>sx 0 rfl trivial rfl rfl cA sz68 rfl rfl rfl nofun<|.fin ?_
  have hbd:((S.take j).map (·.fID)).length + ([(S.getD j default).fID]:List ByteArray).length≤9223372036854775807∧(((S.take j).map (·.fID)).length + ([(S.getD j default).fID]:List ByteArray).length) * 16≤140737488355328:=by rw [List.length_singleton,List.length_map,List.length_take]; omega
  refine rg 6 16<|mv0 rfl rfl<|fb rfl trivial rfl fa68_1<|ld 0 rfl trivial rfl sc9 rfl rfl<|Dv.lit strK ([(S.getD j default).fID]:List ByteArray) (css:=[[vS ((S.getD j default).fID)]]) rfl trivial Tryz.underlying38 Tryz.underlying9 c9 z9 rfl (by decide) (by decide) rfl ⟨(cells_one (one_eq rfl)),trivial⟩ rfl rfl rfl<|ap strK 1 ([(S.getD j default).fID]:List ByteArray) src_sl Tryz.underlying38 (.inr ⟨_,Tryz.underlying38⟩) inf9 hbd nofun fun v9=>as0 rfl rfl<|.fin ?_
  refine WP.gh (l':=fun _:Unit=>[own strK v9.1 ((S.take j).map (·.fID)++([(S.getD j default).fID]:List ByteArray)),own Pos.K v5.1 S,mpo Value.string DNode.O v0_0.1 a0.fnodes,blk b0_ 82 [vS a0.froom,eq v0_0.1]]++F) (gh_of (st_selgn 5 [0,1,2,3,4] 1 (by kernel_rfl) rfl rfl)) (fun _ _=>?_)
  have e4:(S.take j).map (·.fID)++([(S.getD j default).fID]:List ByteArray) = (S.take (j + 1)).map (·.fID):=by rw [List.take_add_one,List.map_append,List.getD_eq_getElem?_getD,List.getElem?_eq_getElem hj]; rfl
  rw [e4]
  refine rg 2 0<|bn0 rfl rfl rfl (run_addn (a:=j) (b:=1) (by omega))<|mv0 rfl rfl<|.fin ?_
  exact Back.mk (k - 1) (j + 1,v9) (by omega) (by show j + 1 + (k - 1) = S.length; omega) (weak_cons rfl (weak_cons rfl (weak_cons rfl (weak_cons rfl weak_nil)))) (List.Perm.refl _)
theorem dag_Dag_All.c {k:Nat} {a0:DDag} {v0_0:OV} {b0_:Nat} {r:(List Event)} (h:dag_Dag_All.f k a0 = some r):Tr Tryz.prog 29 [eq (.pointer (some ⟨b0_,0,none⟩))] [blk b0_ 82 [vS a0.froom,eq v0_0.1],mpo Value.string DNode.O v0_0.1 a0.fnodes] (γ:=OV) (fun _=>True) (fun g=>eq g.1) (fun g=>[blk b0_ 82 [vS a0.froom,eq v0_0.1],mpo Value.string DNode.O v0_0.1 a0.fnodes,own Event.K g.1 r]):=by
 unfold dag_Dag_All.f at h
 refine Tr.body Tryz.func29 (c:=_) rfl Tryz.ntmps29 (Nat.le_of_ble_eq_true rfl) fun R0 F=>?_
 replace h:=Gets.of h
 have H:=h
 clear h
 refine WP.seq<|rg 1 0<|as0 rfl rfl<|.fin<|WP.seq<|rg 1 0<|as0 rfl rfl<|.fin<|WP.seqn H (fun q731:(Int×Int×Bool×(List Event)×(List ByteArray))×OV×OV=>q731.1) (fun q731:(Int×Int×Bool×(List Event)×(List ByteArray))×OV×OV=>[(0,eq (.pointer (some ⟨b0_,0,none⟩))),(2,eq (.slice none 0 0)),(3,eq q731.2.1.1),(7,eq q731.2.2.1),(8,vI q731.1.1),(9,vI q731.1.2.1),(10,vB q731.1.2.2.1)]) (fun q731:(Int×Int×Bool×(List Event)×(List ByteArray))×OV×OV=>[blk b0_ 82 [vS a0.froom,eq v0_0.1],mpo Value.string DNode.O v0_0.1 a0.fnodes,own Event.K q731.2.1.1 q731.1.2.2.2.1,own strK q731.2.2.1 q731.1.2.2.2.2]++F) (fun q731 H=>?_) (fun H=>?_)
 ·
  obtain ⟨p708,v709,v710⟩:=q731
  refine WP.seq<|rg 2 0<|mv0 rfl rfl<|as0 rfl rfl<|.fin ?_
  obtain rfl:=Gets.out H
  exact rt i2 rfl v709 4 [3,0,1,2] 1 (.cons (res_tmp rfl) .nil)
 refine WP.seq<|rg 4 2<|mv0 rfl rfl<|el H fun t711 h712 H=>cx 2 [0,1] cal46 (dag_Dag_ids_All.c h712 (b0_:=b0_) (v0_0:=v0_0)) nofun fun g713 _=>?_
 refine Dv.lenw rfl trivial rfl (mem_at 2 rfl) Tryz.underlying38<|mv0 rfl rfl<|.fin<|WP.block<|wg (st_nil Event.K none) fun _ _=>?_
 refine wg (sg 4 [1,2,3,0] 0) fun _ _=>?_
 refine lp (fun j_ (p730:Int×(List Event)×OV)=>dag_Dag_All.l0 k a0 t711 j_ p730.1 p730.2.1) (0,([]:List Event),nilV) H (fun p730=>[(0,eq (.pointer (some ⟨b0_,0,none⟩))),(2,eq (.slice none 0 0)),(3,eq p730.2.2.1),(7,eq g713.1),(8,vI (t711.length:Int)),(9,vI p730.1)]) (fun p730=>[blk b0_ 82 [vS a0.froom,eq v0_0.1],mpo Value.string DNode.O v0_0.1 a0.fnodes,own strK g713.1 t711,own Event.K p730.2.2.1 p730.2.1]++F) ?_
 rintro j_ ⟨x714,x715,v716⟩ H
 rcases j_ with _ | j729
 ·
  exact (Gets.no H).elim
 replace H:Gets (dag_Dag_All.l0 k a0 t711 (j729 + 1) x714 x715) _:=H
 rw [dag_Dag_All.l0] at H
 refine WP.seq<|rg 1 0<|bn0 rfl rfl rfl run_lt<|.fin<|WP.seq<|cd H rfl (fun _ H=>?_) (fun _ H=>?_)
 rotate_left
 ·
  refine WP.exit ?_
  have H:=H.out
  refine ng (sg 4 [0,1,3,2] 0) fun _ _=>?_
  exact jn (((t711.length:Int),x714,decide (x714 < (t711.length:Int)),x715,t711),v716,g713) H
 refine WP.skip<|WP.seq<|WP.block<|WP.seq<|rg 3 0<|gr H fun g718 H=>?_
 have h719:x714.toNat < t711.length:=idx_lt g718
 refine Dv.ixw rfl trivial rfl (mem_at 2 rfl) rfl Tryz.underlying38 Tryz.underlying9 c9 g718.1 g718.2<|Dv.ldw (j:=x714.toNat) (f:=0) (p:=vS (t711.getD x714.toNat default)) rfl trivial rfl (mem_at 2 rfl) h719 Tryz.underlying9 rfl rfl<|as0 rfl rfl<|.fin<|rg 14 4096<|mv0 rfl rfl<|mv0 rfl rfl<|Dv.nilp rfl trivial rfl<|fb rfl trivial rfl fa82_1<|ld 0 rfl trivial rfl sc80 rfl rfl<|mv0 rfl rfl<|vg (mpo_opn 1 rfl) fun z720 h721=>?_
 refine Dv.mlv nilP rfl trivial rfl (mem_at 0 rfl) rfl Tryz.underlying80 (keyOk_str Tryz.underlying9) z83 (fun _=>rfl)<|gr H fun g722 H=>vg (mpo_foc h721 rfl g722 (pm 5 [1,0,2,3,4])) fun _ _=>?_
 refine Dv.nilA DNode.nn rfl trivial rfl (mem_at 0 rfl)<|vg (DNode.opn 0 rfl) fun g723 h724=>?_
 refine fp h724 rfl trivial rfl fa85_0<|lds 0 rfl trivial rfl sg40 rfl rfl<|el H fun t725 h726 H=>cl rfl cal42 rfl (dag_own.c h726)<|Dv.lit Event.K ([t725]:List Event) (css:=[Event.enc t725]) rfl trivial Tryz.underlying33 Tryz.underlying40 c40 z40 rfl (by decide) (by decide) rfl ⟨(cells_agg (Event.K.one _)),trivial⟩ rfl rfl rfl<|gr H fun g727 H=>ap Event.K 5 ([t725]:List Event) src_sl Tryz.underlying33 (.inr ⟨_,Tryz.underlying33⟩) inf40 g727 nofun fun v728=>?_
 refine as0 rfl rfl<|.fin<|rg 2 0<|bn0 rfl rfl rfl run_add<|mv0 rfl rfl<|.fin<|ng (DNode.shut (p:=((mget (zipK a0.fnodes z720) (t711.getD x714.toNat default)).getD nilP)) (m:=(mget a0.fnodes (t711.getD x714.toNat default)).getD default) g723 h724 (pm 6 [0,1,2,3,4,5])) fun _ _=>?_
 refine ng (mpo_unf0 h721 rfl g722 (pm 6 [0,1,2,3,4,5])) fun _ _=>?_
 refine ng (mpo_shut h721 rfl (pm 5 [1,0,2,3,4])) fun _ _=>?_
 refine ng (sg 4 [1,0,2,3] 0) fun _ _=>?_
 exact bk j729 (w64 (x714 + 1),x715++([t725]:List Event),v728) H
theorem view_View_Events.c {k:Nat} {a0:VView} {a1:ByteArray} {v0_0:OV} {b0_:Nat} {r:(List Event)} (h:view_View_Events.f k a0 a1 = some r):Tr Tryz.prog 17 [eq (.pointer (some ⟨b0_,0,none⟩)),vS a1] [blk b0_ 58 [eq v0_0.1],mpo Value.string DDag.O v0_0.1 a0.fdags] (γ:=OV) (fun _=>True) (fun g=>eq g.1) (fun g=>[blk b0_ 58 [eq v0_0.1],mpo Value.string DDag.O v0_0.1 a0.fdags,own Event.K g.1 r]):=by
 unfold view_View_Events.f at h
 refine Tr.body Tryz.func17 (c:=_) rfl Tryz.ntmps17 (Nat.le_of_ble_eq_true rfl) fun R0 F=>?_
 replace h:=Gets.of h
 have H:=h
 clear h
 refine WP.seq<|rg 1 0<|as0 rfl rfl<|.fin<|WP.seq<|rg 5 12<|mv0 rfl rfl<|mv0 rfl rfl<|el H fun t732 h733 H=>cx 2 [0,1] cal24 (view_View_room.c h733 (b0_:=b0_) (v0_0:=v0_0)) nofun fun v734 _=>?_
 refine vg (DDag.opn 2 rfl) fun g735 h736=>?_
 refine el H fun t737 h738 H=>cx 4 [0,1,2,3] cal29 (Tr.weak (dag_Dag_All.c h738 (b0_:=g735.1) (v0_0:=g735.2)) (.cons (wk_ptr h736) .nil)) nofun fun g739 _=>?_
 refine as0 rfl rfl<|.fin<|wg (DDag.shut (p:=v734) (m:=t732) (g735.1,g735.2) h736 (pm 5 [0,1,2,3,4])) fun _ _=>?_
 refine wg (mpl_back0 (view_View_room.r h733) (pm 4 [3,0,1,2])) fun _ _=>?_
 obtain rfl:=Gets.out H
 exact rt i2 rfl g739 3 [2,0,1] 0 (.cons (res_tmp rfl) .nil)
theorem dag_Same.c {k:Nat} {a0:Event} {a1:Event} {r:Bool} (h:dag_Same.f k a0 a1 = some r):Pt Tryz.prog 18 [agg (Event.enc a0),agg (Event.enc a1)] (vB r):=by
 unfold dag_Same.f at h
 refine pb Tryz.func18 Tryz.ntmps18 h fun R0 F H=>?_
 refine WP.seq<|rg 3 3<|Dv.box rfl trivial rfl cA nofun fun b740=>Dv.box rfl trivial rfl cA nofun fun b741=>as0 rfl rfl<|.fin<|WP.seq<|rg 41 0<|fb rfl trivial rfl fa40_0<|ld 1 rfl trivial rfl sc9 rfl rfl<|fb rfl trivial rfl fa40_0<|ld 0 rfl trivial rfl sc9 rfl rfl<|bn0 rfl rfl rfl run_seq<|mv0 rfl rfl ?_
 cases c742:decide (a0.fID = a1.fID)
 ·
  have H:=H.cf c742
  refine sk rfl rfl<|sk rfl rfl<|sk rfl rfl<|sk rfl rfl<|sk rfl rfl<|pf0 rfl rfl rfl<|mv0 rfl rfl<|sk rfl rfl<|sk rfl rfl<|sk rfl rfl<|sk rfl rfl<|sk rfl rfl<|pf0 rfl rfl rfl<|mv0 rfl rfl<|sk rfl rfl<|sk rfl rfl<|sk rfl rfl<|sk rfl rfl<|sk rfl rfl<|pf0 rfl rfl rfl<|mv0 rfl rfl<|sk rfl rfl<|sk rfl rfl<|sk rfl rfl<|sk rfl rfl<|sk rfl rfl<|pf0 rfl rfl rfl<|mv0 rfl rfl<|sk rfl rfl<|sk rfl rfl<|sk rfl rfl<|sk rfl rfl<|sk rfl rfl<|pf0 rfl rfl rfl<|as0 rfl rfl<|.fin ?_
  cases H.out; exact r2 i2 rfl (.cons (res_tmp rfl) .nil)
 have H:=H.ct c742
 refine fb rfl (gg rfl) rfl fa40_1<|ld 1 rfl (gg rfl) rfl sc9 rfl rfl<|fb rfl (gg rfl) rfl fa40_1<|ld 0 rfl (gg rfl) rfl sc9 rfl rfl<|bng rfl rfl rfl rfl run_seq<|pt0 rfl rfl rfl<|mv0 rfl rfl ?_
 cases c743:decide (a0.fRoom = a1.fRoom)
 ·
  have H:=H.cf c743
  refine sk rfl rfl<|sk rfl rfl<|sk rfl rfl<|sk rfl rfl<|sk rfl rfl<|pf0 rfl rfl rfl<|mv0 rfl rfl<|sk rfl rfl<|sk rfl rfl<|sk rfl rfl<|sk rfl rfl<|sk rfl rfl<|pf0 rfl rfl rfl<|mv0 rfl rfl<|sk rfl rfl<|sk rfl rfl<|sk rfl rfl<|sk rfl rfl<|sk rfl rfl<|pf0 rfl rfl rfl<|mv0 rfl rfl<|sk rfl rfl<|sk rfl rfl<|sk rfl rfl<|sk rfl rfl<|sk rfl rfl<|pf0 rfl rfl rfl<|as0 rfl rfl<|.fin ?_
  cases H.out; exact r2 i2 rfl (.cons (res_tmp rfl) .nil)
 have H:=H.ct c743
 refine fb rfl (gg rfl) rfl fa40_2<|ld 1 rfl (gg rfl) rfl sc38 rfl rfl<|fb rfl (gg rfl) rfl fa40_2<|ld 0 rfl (gg rfl) rfl sc38 rfl rfl<|el H fun t744 h745 H=>Dv.call rfl (gg rfl) cal12 rfl (slices_Equal_string.c h745)<|pt0 rfl rfl rfl<|mv0 rfl rfl ?_
 cases c746:t744
 ·
  have H:=H.cf c746
  refine sk rfl rfl<|sk rfl rfl<|sk rfl rfl<|sk rfl rfl<|sk rfl rfl<|pf0 rfl rfl rfl<|mv0 rfl rfl<|sk rfl rfl<|sk rfl rfl<|sk rfl rfl<|sk rfl rfl<|sk rfl rfl<|pf0 rfl rfl rfl<|mv0 rfl rfl<|sk rfl rfl<|sk rfl rfl<|sk rfl rfl<|sk rfl rfl<|sk rfl rfl<|pf0 rfl rfl rfl<|as0 rfl rfl<|.fin ?_
  cases H.out; exact r2 i2 rfl (.cons (res_tmp rfl) .nil)
 have H:=H.ct c746
 refine fb rfl (gg rfl) rfl fa40_3<|ld 1 rfl (gg rfl) rfl sc9 rfl rfl<|fb rfl (gg rfl) rfl fa40_3<|ld 0 rfl (gg rfl) rfl sc9 rfl rfl<|bng rfl rfl rfl rfl run_seq<|pt0 rfl rfl rfl<|mv0 rfl rfl ?_
 cases c747:decide (a0.fThread = a1.fThread)
 ·
  have H:=H.cf c747
  refine sk rfl rfl<|sk rfl rfl<|sk rfl rfl<|sk rfl rfl<|sk rfl rfl<|pf0 rfl rfl rfl<|mv0 rfl rfl<|sk rfl rfl<|sk rfl rfl<|sk rfl rfl<|sk rfl rfl<|sk rfl rfl<|pf0 rfl rfl rfl<|as0 rfl rfl<|.fin ?_
  cases H.out; exact r2 i2 rfl (.cons (res_tmp rfl) .nil)
 have H:=H.ct c747
 refine fb rfl (gg rfl) rfl fa40_4<|ld 1 rfl (gg rfl) rfl sc9 rfl rfl<|fb rfl (gg rfl) rfl fa40_4<|ld 0 rfl (gg rfl) rfl sc9 rfl rfl<|bng rfl rfl rfl rfl run_seq<|pt0 rfl rfl rfl<|mv0 rfl rfl ?_
 cases c748:decide (a0.fUser = a1.fUser)
 ·
  have H:=H.cf c748
  refine sk rfl rfl<|sk rfl rfl<|sk rfl rfl<|sk rfl rfl<|sk rfl rfl<|pf0 rfl rfl rfl<|as0 rfl rfl<|.fin ?_
  cases H.out; exact r2 i2 rfl (.cons (res_tmp rfl) .nil)
 have H:=H.ct c748
 refine fb rfl (gg rfl) rfl fa40_5<|ld 1 rfl (gg rfl) rfl sc3 rfl rfl<|fb rfl (gg rfl) rfl fa40_5<|ld 0 rfl (gg rfl) rfl sc3 rfl rfl<|bng rfl rfl rfl rfl run_eq<|pt0 rfl rfl rfl<|as0 rfl rfl<|.fin ?_
 cases H.out; exact r2 i2 rfl (.cons (res_tmp rfl) .nil)
theorem view_View_Same_1.c {k:Nat} {a0:ByteArray} {cb0_ cd0_:Nat} {cq0_ cv0_0:OV} {ch0_:cq0_.1 = .pointer (some ⟨cd0_,0,none⟩)} {cb1_ cd1_:Nat} {cq1_ cv1_0:OV} {ch1_:cq1_.1 = .pointer (some ⟨cd1_,0,none⟩)} {c0:VView} {c1:VView} {r:Bool} (h:view_View_Same_1.f k a0 c0 c1 = some r):Tr Tryz.prog 15 [vS a0,eq (.pointer (some ⟨cb0_,0,none⟩)),eq (.pointer (some ⟨cb1_,0,none⟩))] [blk cb0_ 23 [eq cq0_.1],blk cd0_ 58 [eq cv0_0.1],mpo Value.string DDag.O cv0_0.1 c0.fdags,blk cb1_ 23 [eq cq1_.1],blk cd1_ 58 [eq cv1_0.1],mpo Value.string DDag.O cv1_0.1 c1.fdags] (γ:=Unit) (fun _=>True) (fun g=>vB r) (fun g=>[blk cb0_ 23 [eq cq0_.1],blk cd0_ 58 [eq cv0_0.1],mpo Value.string DDag.O cv0_0.1 c0.fdags,blk cb1_ 23 [eq cq1_.1],blk cd1_ 58 [eq cv1_0.1],mpo Value.string DDag.O cv1_0.1 c1.fdags]):=by
 unfold view_View_Same_1.f at h
 refine Tr.body Tryz.func15 (c:=_) rfl Tryz.ntmps15 (Nat.le_of_ble_eq_true rfl) fun R0 F=>?_
 replace h:=Gets.of h
 have H:=h
 clear h
 refine WP.seq<|rg 1 0<|as0 rfl rfl<|.fin<|WP.seq<|dgo Tryz.checked.mixed [0,1,3,4,2,5,6,7,8] [2,5]<|ld 0 rfl trivial rfl sc23 rfl rfl<|mv0 rfl rfl<|ld 3 rfl trivial rfl sc23 rfl rfl<|mv0 rfl rfl<|el H fun t749 h750 H=>Dv.callx (pre:=[blk cd0_ 58 [eq cv0_0.1],mpo Value.string DDag.O cv0_0.1 c0.fdags]) (F:=[blk cb0_ 23 [eq cq0_.1],blk cb1_ 23 [eq cq1_.1],blk cd1_ 58 [eq cv1_0.1],mpo Value.string DDag.O cv1_0.1 c1.fdags]++F) (fun g751:OV=>[blk cd0_ 58 [eq cv0_0.1],mpo Value.string DDag.O cv0_0.1 c0.fdags,own Event.K g751.1 t749,blk cb0_ 23 [eq cq0_.1],blk cb1_ 23 [eq cq1_.1],blk cd1_ 58 [eq cv1_0.1],mpo Value.string DDag.O cv1_0.1 c1.fdags]++F) rfl trivial cal17 rfl (Tr.weak (view_View_Events.c h750 (b0_:=cd0_) (v0_0:=cv0_0)) (.cons (wk_ptr ch0_) (.cons wk_id .nil))) (perm_to (L:=[blk cb0_ 23 [eq cq0_.1],blk cd0_ 58 [eq cv0_0.1],mpo Value.string DDag.O cv0_0.1 c0.fdags,blk cb1_ 23 [eq cq1_.1],blk cd1_ 58 [eq cv1_0.1],mpo Value.string DDag.O cv1_0.1 c1.fdags]) (F:=F) [1,2,0,3,4,5] (by kernel_rfl) rfl rfl) rfl (fun _=>pendc (pend_in (fun _=>trivial) (pend_in (fun _=>(mem_at 4 rfl)) (pend_by (by kernel_rfl) (pend_by (by kernel_rfl) pend_nil))))) (fun g751 _=>?_)
 refine el H fun t752 h753 H=>cx 7 [5,6,0,1,2,3,4] cal17 (Tr.weak (view_View_Events.c h753 (b0_:=cd1_) (v0_0:=cv1_0)) (.cons (wk_ptr ch1_) (.cons wk_id .nil))) pC fun g754 _=>?_
 refine el H fun t755 h756 H=>cll (B:=[own Event.K g751.1 t749,own Event.K g754.1 t752]) 8 [5,2,0,1,3,4,6,7] cal16 (Pt.lend _ (Pt.weak (slices_EqualFunc_Event_Event.c h756) (.cons wk_id (.cons wk_id (.cons (wk_fn cal18 (by rintro _ _ ⟨a0_,a1_,r_,h_,rfl,rfl⟩; exact dag_Same.c h_)) .nil)))) (.cons (lt_own (mem_at 0 rfl)) (.cons (lt_own (mem_at 1 rfl)) (.cons lt_id .nil))) flat_eq) ?_
 refine un0 rfl rfl (run_not _)<|as0 rfl rfl<|.fin ?_
 cases H.out; exact rt i2 rfl () 8 [2,5,6,3,4,7,0,1] 2 (.cons (res_tmp rfl) .nil)
theorem view_View_Same_1_self.c {k:Nat} {a0:ByteArray} {cb0_ cd0_:Nat} {cq0_ cv0_0:OV} {ch0_:cq0_.1 = .pointer (some ⟨cd0_,0,none⟩)} {cb1_:Nat} {c0:VView} {r:Bool} (h:view_View_Same_1_self.f k a0 c0 = some r):Tr Tryz.prog 15 [vS a0,eq (.pointer (some ⟨cb0_,0,none⟩)),eq (.pointer (some ⟨cb1_,0,none⟩))] [blk cb0_ 23 [eq cq0_.1],blk cd0_ 58 [eq cv0_0.1],mpo Value.string DDag.O cv0_0.1 c0.fdags,blk cb1_ 23 [eq cq0_.1]] (γ:=Unit) (fun _=>True) (fun g=>vB r) (fun g=>[blk cb0_ 23 [eq cq0_.1],blk cd0_ 58 [eq cv0_0.1],mpo Value.string DDag.O cv0_0.1 c0.fdags,blk cb1_ 23 [eq cq0_.1]]):=by
 unfold view_View_Same_1_self.f at h
 refine Tr.body Tryz.func15 (c:=_) rfl Tryz.ntmps15 (Nat.le_of_ble_eq_true rfl) fun R0 F=>?_
 replace h:=Gets.of h
 have H:=h
 clear h
 refine WP.seq<|rg 1 0<|as0 rfl rfl<|.fin<|WP.seq<|dgo Tryz.checked.mixed [0,1,3,4,2,5,6,7,8] [2,5]<|ld 0 rfl trivial rfl sc23 rfl rfl<|mv0 rfl rfl<|ld 3 rfl trivial rfl sc23 rfl rfl<|mv0 rfl rfl<|el H fun t757 h758 H=>Dv.callx (pre:=[blk cd0_ 58 [eq cv0_0.1],mpo Value.string DDag.O cv0_0.1 c0.fdags]) (F:=[blk cb0_ 23 [eq cq0_.1],blk cb1_ 23 [eq cq0_.1]]++F) (fun g759:OV=>[blk cd0_ 58 [eq cv0_0.1],mpo Value.string DDag.O cv0_0.1 c0.fdags,own Event.K g759.1 t757,blk cb0_ 23 [eq cq0_.1],blk cb1_ 23 [eq cq0_.1]]++F) rfl trivial cal17 rfl (Tr.weak (view_View_Events.c h758 (b0_:=cd0_) (v0_0:=cv0_0)) (.cons (wk_ptr ch0_) (.cons wk_id .nil))) (perm_to (L:=[blk cb0_ 23 [eq cq0_.1],blk cd0_ 58 [eq cv0_0.1],mpo Value.string DDag.O cv0_0.1 c0.fdags,blk cb1_ 23 [eq cq0_.1]]) (F:=F) [1,2,0,3] rfl rfl rfl) rfl (fun _=>pendc (pend_in (fun _=>trivial) (pend_in (fun _=>(mem_at 4 rfl)) (pend_by (by kernel_rfl) (pend_by (by kernel_rfl) pend_nil))))) (fun g759 _=>?_)
 refine el H fun t760 h761 H=>cx 5 [0,1,2,3,4] cal17 (Tr.weak (view_View_Events.c h761 (b0_:=cd0_) (v0_0:=cv0_0)) (.cons (wk_ptr ch0_) (.cons wk_id .nil))) pC fun g762 _=>?_
 refine el H fun t763 h764 H=>cll (B:=[own Event.K g759.1 t757,own Event.K g762.1 t760]) 6 [3,2,0,1,4,5] cal16 (Pt.lend _ (Pt.weak (slices_EqualFunc_Event_Event.c h764) (.cons wk_id (.cons wk_id (.cons (wk_fn cal18 (by rintro _ _ ⟨a0_,a1_,r_,h_,rfl,rfl⟩; exact dag_Same.c h_)) .nil)))) (.cons (lt_own (mem_at 0 rfl)) (.cons (lt_own (mem_at 1 rfl)) (.cons lt_id .nil))) flat_eq) ?_
 refine un0 rfl rfl (run_not _)<|as0 rfl rfl<|.fin ?_
 cases H.out; exact rt i2 rfl () 6 [2,3,4,0,1,5] 2 (.cons (res_tmp rfl) .nil)
theorem view_View_Same.c {k:Nat} {a0:VView} {a1:VView} {p0_ p1_:OV} {r:Bool} (h:view_View_Same.f k a0 a1 = some r):Tr Tryz.prog 5 [eq p0_.1,eq p1_.1] [VView.O p0_ a0,VView.O p1_ a1] (γ:=Unit) (fun _=>True) (fun g=>vB r) (fun g=>[VView.O p0_ a0,VView.O p1_ a1]):=by
 unfold view_View_Same.f at h
 refine Tr.body Tryz.func5 (c:=_) rfl Tryz.ntmps5 (Nat.le_of_ble_eq_true rfl) fun R0 F=>?_
 replace h:=Gets.of h
 have H:=h
 clear h
 refine WP.seq<|rg 3 3<|Dv.box rfl trivial rfl (cells_one one_ov) nofun fun b765=>Dv.box rfl trivial rfl (cells_one one_ov) nofun fun b766=>as0 rfl rfl<|.fin<|WP.seq<|wg (VView.opn 2 rfl) fun g767 h768=>?_
 refine wg (VView.opn 4 rfl) fun g769 h770=>?_
 refine dgo Tryz.checked.mixed [0,2,1,3,4,5,6,8,7,9,10,11,12] [1,3,7]<|ld 5 rfl trivial rfl sc23 rfl rfl<|ld 4 rfl trivial rfl sc23 rfl rfl<|el H fun t771 h772 H=>Dv.callx (pre:=[blk g767.1 58 [eq g767.2.1],mpo Value.string DDag.O g767.2.1 a0.fdags]) (F:=[blk g769.1 58 [eq g769.2.1],mpo Value.string DDag.O g769.2.1 a1.fdags,blk b766 23 [eq p1_.1],blk b765 23 [eq p0_.1]]++F) (fun g773:OV=>[blk g767.1 58 [eq g767.2.1],mpo Value.string DDag.O g767.2.1 a0.fdags,own strK g773.1 t771,blk g769.1 58 [eq g769.2.1],mpo Value.string DDag.O g769.2.1 a1.fdags,blk b766 23 [eq p1_.1],blk b765 23 [eq p0_.1]]++F) rfl trivial cal13 rfl (Tr.weak (view_View_Rooms.c h772 (b0_:=g767.1) (v0_0:=g767.2)) (.cons (wk_ptr h768) .nil)) (perm_to (L:=[blk g769.1 58 [eq g769.2.1],mpo Value.string DDag.O g769.2.1 a1.fdags,blk g767.1 58 [eq g767.2.1],mpo Value.string DDag.O g767.2.1 a0.fdags,blk b766 23 [eq p1_.1],blk b765 23 [eq p0_.1]]) (F:=F) [2,3,0,1,4,5] (by kernel_rfl) rfl rfl) rfl (fun _=>pendc (pend_in (fun _=>(mem_at 5 rfl)) (pend_by (by kernel_rfl) pend_nil))) (fun g773 _=>?_)
 refine el H fun t774 h775 H=>cx 7 [3,4,0,1,2,5,6] cal13 (Tr.weak (view_View_Rooms.c h775 (b0_:=g769.1) (v0_0:=g769.2)) (.cons (wk_ptr h770) .nil)) pC fun g776 _=>?_
 refine el H fun t777 h778 H=>cll (B:=[own strK g773.1 t771,own strK g776.1 t774]) 8 [5,2,0,1,3,4,6,7] cal12 (Pt.lend _ (slices_Equal_string.c h778) (.cons (lt_own (mem_at 0 rfl)) (.cons (lt_own (mem_at 1 rfl)) .nil)) flat_eq) ?_
 refine mv0 rfl rfl ?_
 cases c779:t777
 ·
  have H:=H.cf c779
  refine sk rfl rfl<|sk rfl rfl<|Dv.skipb rfl ⟨_,_,rfl,rfl,.inl rfl⟩ (fun _=>(pend_in (fun _=>trivial) (pend_by (by kernel_rfl) (pend_by (by kernel_rfl) (pend_by (by kernel_rfl) (pend_by (by kernel_rfl) (pend_by (by kernel_rfl) pend_nil)))))))<|sk rfl rfl<|sk rfl rfl<|pf0 rfl rfl rfl<|as0 rfl rfl<|.fin<|wg (VView.shut (p:=p0_) (m:=a0) (g767.1,g767.2) h768 (pm 8 [3,4,0,1,2,5,6,7])) fun _ _=>?_
  refine wg (VView.shut (p:=p1_) (m:=a1) (g769.1,g769.2) h770 (pm 7 [1,2,0,3,4,5,6])) fun _ _=>?_
  cases H.out; exact rt i2 rfl () 6 [2,3,4,5,1,0] 4 (.cons (res_tmp rfl) .nil)
 have H:=H.ct c779
 refine ld 7 rfl (gg rfl) rfl sc23 rfl rfl<|Dv.mkx (Q:=fqQ_string_bool (fun a0_=>view_View_Same_1.f k a0_ a0 a1)) (L:=[blk b765 23 [eq p0_.1],blk g767.1 58 [eq g767.2.1],mpo Value.string DDag.O g767.2.1 a0.fdags,blk b766 23 [eq p1_.1],blk g769.1 58 [eq g769.2.1],mpo Value.string DDag.O g769.2.1 a1.fdags]) cal15 (by rintro _ _ ⟨a0_,r_,h_,rfl,rfl⟩; exact view_View_Same_1.c h_ (cb0_:=b765) (cq0_:=p0_) (cd0_:=g767.1) (ch0_:=h768) (cv0_0:=g767.2) (cb1_:=b766) (cq1_:=p1_) (cd1_:=g769.1) (ch1_:=h770) (cv1_0:=g769.2)) rfl (gg rfl) rfl rfl<|el H fun t780 h781 H=>Dv.callx (pre:=[blk g767.1 58 [eq g767.2.1],mpo Value.string DDag.O g767.2.1 a0.fdags]) (F:=[blk g769.1 58 [eq g769.2.1],mpo Value.string DDag.O g769.2.1 a1.fdags,own strK g776.1 t774,own strK g773.1 t771,blk b766 23 [eq p1_.1],blk b765 23 [eq p0_.1]]++F) (fun g782:OV=>[blk g767.1 58 [eq g767.2.1],mpo Value.string DDag.O g767.2.1 a0.fdags,own strK g782.1 t780,blk g769.1 58 [eq g769.2.1],mpo Value.string DDag.O g769.2.1 a1.fdags,own strK g776.1 t774,own strK g773.1 t771,blk b766 23 [eq p1_.1],blk b765 23 [eq p0_.1]]++F) rfl (gg rfl) cal13 rfl (Tr.weak (view_View_Rooms.c h781 (b0_:=g767.1) (v0_0:=g767.2)) (.cons (wk_ptr h768) .nil)) (perm_to (L:=[blk g769.1 58 [eq g769.2.1],mpo Value.string DDag.O g769.2.1 a1.fdags,own strK g776.1 t774,blk g767.1 58 [eq g767.2.1],mpo Value.string DDag.O g767.2.1 a0.fdags,own strK g773.1 t771,blk b766 23 [eq p1_.1],blk b765 23 [eq p0_.1]]) (F:=F) [3,4,0,1,2,5,6,7] (by kernel_rfl) rfl rfl) rfl (fun _=>pendc (pend_in (fun _=>trivial) (pend_by (by kernel_rfl) (pend_by (by kernel_rfl) (pend_by (by kernel_rfl) (pend_by (by kernel_rfl) (pend_by (by kernel_rfl) pend_nil))))))) (fun g782 _=>?_)
 refine el H fun t783 h784 H=>cll 9 [2,8,0,1,7,3,4,5,6] cal14 (Tr.unpkr (A:=[own strK g782.1 t780]) (L:=[blk b765 23 [eq p0_.1],blk g767.1 58 [eq g767.2.1],mpo Value.string DDag.O g767.2.1 a0.fdags,blk b766 23 [eq p1_.1],blk g769.1 58 [eq g769.2.1],mpo Value.string DDag.O g769.2.1 a1.fdags]) (slices_ContainsFunc_string_xw.c h784 (p0_:=g782) (X1_:=(pk [blk b765 23 [eq p0_.1],blk g767.1 58 [eq g767.2.1],mpo Value.string DDag.O g767.2.1 a0.fdags,blk b766 23 [eq p1_.1],blk g769.1 58 [eq g769.2.1],mpo Value.string DDag.O g769.2.1 a1.fdags])))) ?_
 refine ung rfl rfl rfl (run_not _)<|pt0 rfl rfl rfl<|as0 rfl rfl<|.fin<|wg (VView.shut (p:=p0_) (m:=a0) (g767.1,g767.2) h768 (pm 9 [0,1,2,3,4,5,6,7,8])) fun _ _=>?_
 refine wg (VView.shut (p:=p1_) (m:=a1) (g769.1,g769.2) h770 (pm 8 [2,3,0,1,4,5,6,7])) fun _ _=>?_
 cases H.out; exact rt i2 rfl () 7 [2,3,4,5,6,1,0] 5 (.cons (res_tmp rfl) .nil)
theorem view_View_Same_self.c {k:Nat} {a0:VView} {p0_:OV} {r:Bool} (h:view_View_Same_self.f k a0 = some r):Tr Tryz.prog 5 [eq p0_.1,eq p0_.1] [VView.O p0_ a0] (γ:=Unit) (fun _=>True) (fun g=>vB r) (fun g=>[VView.O p0_ a0]):=by
 unfold view_View_Same_self.f at h
 refine Tr.body Tryz.func5 (c:=_) rfl Tryz.ntmps5 (Nat.le_of_ble_eq_true rfl) fun R0 F=>?_
 replace h:=Gets.of h
 have H:=h
 clear h
 refine WP.seq<|rg 3 3<|Dv.box rfl trivial rfl (cells_one one_ov) nofun fun b785=>Dv.box rfl trivial rfl (cells_one one_ov) nofun fun b786=>as0 rfl rfl<|.fin<|WP.seq<|wg (VView.opn 2 rfl) fun g787 h788=>?_
 refine dgo Tryz.checked.mixed [0,2,1,3,4,5,6,8,7,9,10,11,12] [1,3,7]<|ld 3 rfl trivial rfl sc23 rfl rfl<|ld 2 rfl trivial rfl sc23 rfl rfl<|el H fun t789 h790 H=>Dv.callx (pre:=[blk g787.1 58 [eq g787.2.1],mpo Value.string DDag.O g787.2.1 a0.fdags]) (F:=[blk b786 23 [eq p0_.1],blk b785 23 [eq p0_.1]]++F) (fun g791:OV=>[blk g787.1 58 [eq g787.2.1],mpo Value.string DDag.O g787.2.1 a0.fdags,own strK g791.1 t789,blk b786 23 [eq p0_.1],blk b785 23 [eq p0_.1]]++F) rfl trivial cal13 rfl (Tr.weak (view_View_Rooms.c h790 (b0_:=g787.1) (v0_0:=g787.2)) (.cons (wk_ptr h788) .nil)) (perm_to (L:=[blk g787.1 58 [eq g787.2.1],mpo Value.string DDag.O g787.2.1 a0.fdags,blk b786 23 [eq p0_.1],blk b785 23 [eq p0_.1]]) (F:=F) [0,1,2,3] rfl rfl rfl) rfl (fun _=>pendc (pend_in (fun _=>(mem_at 3 rfl)) (pend_by (by kernel_rfl) pend_nil))) (fun g791 _=>?_)
 refine el H fun t792 h793 H=>cx 5 [0,1,2,3,4] cal13 (Tr.weak (view_View_Rooms.c h793 (b0_:=g787.1) (v0_0:=g787.2)) (.cons (wk_ptr h788) .nil)) pC fun g794 _=>?_
 refine el H fun t795 h796 H=>cll (B:=[own strK g791.1 t789,own strK g794.1 t792]) 6 [3,2,0,1,4,5] cal12 (Pt.lend _ (slices_Equal_string.c h796) (.cons (lt_own (mem_at 0 rfl)) (.cons (lt_own (mem_at 1 rfl)) .nil)) flat_eq) ?_
 refine mv0 rfl rfl ?_
 cases c797:t795
 ·
  have H:=H.cf c797
  refine sk rfl rfl<|sk rfl rfl<|Dv.skipb rfl ⟨_,_,rfl,rfl,.inl rfl⟩ (fun _=>(pend_in (fun _=>trivial) (pend_by (by kernel_rfl) (pend_by (by kernel_rfl) (pend_by (by kernel_rfl) (pend_by (by kernel_rfl) (pend_by (by kernel_rfl) pend_nil)))))))<|sk rfl rfl<|sk rfl rfl<|pf0 rfl rfl rfl<|as0 rfl rfl<|.fin<|wg (VView.shut (p:=p0_) (m:=a0) (g787.1,g787.2) h788 (pm 6 [0,1,2,3,4,5])) fun _ _=>?_
  cases H.out; exact rt i2 rfl () 5 [1,2,3,4,0] 4 (.cons (res_tmp rfl) .nil)
 have H:=H.ct c797
 refine ld 5 rfl (gg rfl) rfl sc23 rfl rfl<|Dv.mkx (Q:=fqQ_string_bool (fun a0_=>view_View_Same_1_self.f k a0_ a0)) (L:=[blk b785 23 [eq p0_.1],blk g787.1 58 [eq g787.2.1],mpo Value.string DDag.O g787.2.1 a0.fdags,blk b786 23 [eq p0_.1]]) cal15 (by rintro _ _ ⟨a0_,r_,h_,rfl,rfl⟩; exact view_View_Same_1_self.c h_ (cb0_:=b785) (cq0_:=p0_) (cd0_:=g787.1) (ch0_:=h788) (cv0_0:=g787.2) (cb1_:=b786)) rfl (gg rfl) rfl rfl<|el H fun t798 h799 H=>Dv.callx (pre:=[blk g787.1 58 [eq g787.2.1],mpo Value.string DDag.O g787.2.1 a0.fdags]) (F:=[own strK g794.1 t792,own strK g791.1 t789,blk b786 23 [eq p0_.1],blk b785 23 [eq p0_.1]]++F) (fun g800:OV=>[blk g787.1 58 [eq g787.2.1],mpo Value.string DDag.O g787.2.1 a0.fdags,own strK g800.1 t798,own strK g794.1 t792,own strK g791.1 t789,blk b786 23 [eq p0_.1],blk b785 23 [eq p0_.1]]++F) rfl (gg rfl) cal13 rfl (Tr.weak (view_View_Rooms.c h799 (b0_:=g787.1) (v0_0:=g787.2)) (.cons (wk_ptr h788) .nil)) (perm_to (L:=[blk g787.1 58 [eq g787.2.1],mpo Value.string DDag.O g787.2.1 a0.fdags,own strK g794.1 t792,own strK g791.1 t789,blk b786 23 [eq p0_.1],blk b785 23 [eq p0_.1]]) (F:=F) [0,1,2,3,4,5] (by kernel_rfl) rfl rfl) rfl (fun _=>pendc (pend_in (fun _=>trivial) (pend_by (by kernel_rfl) (pend_by (by kernel_rfl) (pend_by (by kernel_rfl) (pend_by (by kernel_rfl) (pend_by (by kernel_rfl) pend_nil))))))) (fun g800 _=>?_)
 refine el H fun t801 h802 H=>cll 7 [2,6,0,1,5,3,4] cal14 (Tr.unpkr (A:=[own strK g800.1 t798]) (L:=[blk b785 23 [eq p0_.1],blk g787.1 58 [eq g787.2.1],mpo Value.string DDag.O g787.2.1 a0.fdags,blk b786 23 [eq p0_.1]]) (slices_ContainsFunc_string_xw.c h802 (p0_:=g800) (X1_:=(pk [blk b785 23 [eq p0_.1],blk g787.1 58 [eq g787.2.1],mpo Value.string DDag.O g787.2.1 a0.fdags,blk b786 23 [eq p0_.1]])))) ?_
 refine ung rfl rfl rfl (run_not _)<|pt0 rfl rfl rfl<|as0 rfl rfl<|.fin<|wg (VView.shut (p:=p0_) (m:=a0) (g787.1,g787.2) h788 (pm 7 [0,1,2,3,4,5,6])) fun _ _=>?_
 cases H.out; exact rt i2 rfl () 6 [1,2,3,4,5,0] 5 (.cons (res_tmp rfl) .nil)
theorem r01_SameTexts.c {k:Nat} {a0:List ByteArray} {a1:List ByteArray} {r:Bool} (h:r01_SameTexts.f k a0 a1 = some r):Pt Tryz.prog 48 [sl strK a0,sl strK a1] (vB r):=by
 unfold r01_SameTexts.f at h
 refine pb Tryz.func48 Tryz.ntmps48 h fun R0 F H=>?_
 refine WP.seq<|rg 1 0<|as0 rfl rfl<|.fin<|WP.seq<|WP.seq<|rg 5 0<|mv0 rfl rfl<|Dv.lenl rfl trivial rfl Tryz.underlying38<|mv0 rfl rfl<|Dv.lenl rfl trivial rfl Tryz.underlying38<|bn0 rfl rfl rfl run_ne<|.fin<|cd H rfl (fun _ H=>?_) (fun _ H=>?_)
 ·
  refine WP.seq<|rg 1 0<|as0 rfl rfl<|.fin ?_
  cases H.out; exact r0 i2 rfl (.cons (res_tmp rfl) .nil)
 refine WP.skip<|WP.seqr H id (fun p804:Int×Bool=>[(0,sl strK a0),(1,sl strK a1),(4,vB false),(5,vI p804.1),(10,vB ((a0.length:Int) != (a1.length:Int))),(14,vB p804.2)]) (fun p804:Int×Bool=>F) (fun p804 H=>?_) (fun H=>?_)
 ·
  refine WP.seq<|rg 1 0<|as0 rfl rfl<|.fin ?_
  cases H.out; exact r0 i2 rfl (.cons (res_tmp rfl) .nil)
 refine WP.seq<|rg 1 0<|as0 rfl rfl<|.fin<|WP.block<|wg (sg 0 [] 0) fun _ _=>?_
 refine lp (fun j_ (p811:Int)=>r01_SameTexts.l0 k a0 a1 j_ p811) 0 H (fun p811=>[(0,sl strK a0),(1,sl strK a1),(4,vB false),(5,vI p811),(10,vB ((a0.length:Int) != (a1.length:Int)))]) (fun p811=>F) ?_
 rintro j_ x805 H
 rcases j_ with _ | j810
 ·
  exact (Gets.no H).elim
 replace H:Gets (r01_SameTexts.l0 k a0 a1 (j810 + 1) x805) _:=H
 rw [r01_SameTexts.l0] at H
 refine WP.seq<|WP.seq<|rg 4 0<|mv0 rfl rfl<|mv0 rfl rfl<|Dv.lenl rfl trivial rfl Tryz.underlying38<|bn0 rfl rfl rfl run_lt<|.fin<|cd H rfl (fun _ H=>?_) (fun _ H=>?_)
 rotate_left
 ·
  refine WP.exit ?_
  have H:=H.out
  exact jn (x805,decide (x805 < (a0.length:Int))) H
 refine WP.skip<|WP.seq<|WP.block<|WP.seq<|dg Tryz.checked.mixed 9 0<|mv0 rfl rfl<|mv0 rfl rfl<|gr H fun g807 H=>Dv.ixr rfl trivial rfl rfl Tryz.underlying38 Tryz.underlying9 c9 g807.1 g807.2<|ldR rfl trivial rfl sc9 rfl<|mv0 rfl rfl<|mv0 rfl rfl<|gr H fun g808 H=>Dv.ixr rfl trivial rfl rfl Tryz.underlying38 Tryz.underlying9 c9 g808.1 g808.2<|ldR rfl trivial rfl sc9 rfl<|bn0 rfl rfl rfl run_sne<|.fin<|cd H rfl (fun _ H=>?_) (fun _ H=>?_)
 rotate_left
 ·
  exact WP.skip<|rg 3 0<|mv0 rfl rfl<|bn0 rfl rfl rfl run_add<|as0 rfl rfl<|.fin<|bk j810 (w64 (x805 + 1)) H
 refine WP.seq<|rg 1 0<|as0 rfl rfl<|.fin ?_
 have H:=H.outr
 cases H.out; exact r0 i2 rfl (.cons (res_tmp rfl) .nil)
theorem r07_Same.c {k:Nat} {a0:Event} {a1:Event} {r:Bool} (h:r07_Same.f k a0 a1 = some r):Pt Tryz.prog 30 [agg (Event.enc a0),agg (Event.enc a1)] (vB r):=by
 unfold r07_Same.f at h
 refine pb Tryz.func30 Tryz.ntmps30 h fun R0 F H=>?_
 refine WP.seq<|rg 3 3<|Dv.box rfl trivial rfl cA nofun fun b812=>Dv.box rfl trivial rfl cA nofun fun b813=>as0 rfl rfl<|.fin<|WP.seq<|rg 6 0<|fb rfl trivial rfl fa40_2<|ld 1 rfl trivial rfl sc38 rfl rfl<|fb rfl trivial rfl fa40_2<|ld 0 rfl trivial rfl sc38 rfl rfl<|el H fun t814 h815 H=>cl rfl cal48 rfl (r01_SameTexts.c h815)<|as0 rfl rfl<|.fin<|WP.seq<|rg 37 0<|mv0 rfl rfl<|mv0 rfl rfl ?_
 cases c816:t814
 ·
  have H:=H.cf c816
  refine sk rfl rfl<|sk rfl rfl<|sk rfl rfl<|sk rfl rfl<|sk rfl rfl<|pf0 rfl rfl rfl<|mv0 rfl rfl<|sk rfl rfl<|sk rfl rfl<|sk rfl rfl<|sk rfl rfl<|sk rfl rfl<|pf0 rfl rfl rfl<|mv0 rfl rfl<|sk rfl rfl<|sk rfl rfl<|sk rfl rfl<|sk rfl rfl<|sk rfl rfl<|pf0 rfl rfl rfl<|mv0 rfl rfl<|sk rfl rfl<|sk rfl rfl<|sk rfl rfl<|sk rfl rfl<|sk rfl rfl<|pf0 rfl rfl rfl<|mv0 rfl rfl<|sk rfl rfl<|sk rfl rfl<|sk rfl rfl<|sk rfl rfl<|sk rfl rfl<|pf0 rfl rfl rfl<|as0 rfl rfl<|.fin ?_
  cases H.out; exact r2 i2 rfl (.cons (res_tmp rfl) .nil)
 have H:=H.ct c816
 refine fb rfl (gg rfl) rfl fa40_0<|ld 1 rfl (gg rfl) rfl sc9 rfl rfl<|fb rfl (gg rfl) rfl fa40_0<|ld 0 rfl (gg rfl) rfl sc9 rfl rfl<|bng rfl rfl rfl rfl run_seq<|pt0 rfl rfl rfl<|mv0 rfl rfl ?_
 cases c817:decide (a0.fID = a1.fID)
 ·
  have H:=H.cf c817
  refine sk rfl rfl<|sk rfl rfl<|sk rfl rfl<|sk rfl rfl<|sk rfl rfl<|pf0 rfl rfl rfl<|mv0 rfl rfl<|sk rfl rfl<|sk rfl rfl<|sk rfl rfl<|sk rfl rfl<|sk rfl rfl<|pf0 rfl rfl rfl<|mv0 rfl rfl<|sk rfl rfl<|sk rfl rfl<|sk rfl rfl<|sk rfl rfl<|sk rfl rfl<|pf0 rfl rfl rfl<|mv0 rfl rfl<|sk rfl rfl<|sk rfl rfl<|sk rfl rfl<|sk rfl rfl<|sk rfl rfl<|pf0 rfl rfl rfl<|as0 rfl rfl<|.fin ?_
  cases H.out; exact r2 i2 rfl (.cons (res_tmp rfl) .nil)
 have H:=H.ct c817
 refine fb rfl (gg rfl) rfl fa40_1<|ld 1 rfl (gg rfl) rfl sc9 rfl rfl<|fb rfl (gg rfl) rfl fa40_1<|ld 0 rfl (gg rfl) rfl sc9 rfl rfl<|bng rfl rfl rfl rfl run_seq<|pt0 rfl rfl rfl<|mv0 rfl rfl ?_
 cases c818:decide (a0.fRoom = a1.fRoom)
 ·
  have H:=H.cf c818
  refine sk rfl rfl<|sk rfl rfl<|sk rfl rfl<|sk rfl rfl<|sk rfl rfl<|pf0 rfl rfl rfl<|mv0 rfl rfl<|sk rfl rfl<|sk rfl rfl<|sk rfl rfl<|sk rfl rfl<|sk rfl rfl<|pf0 rfl rfl rfl<|mv0 rfl rfl<|sk rfl rfl<|sk rfl rfl<|sk rfl rfl<|sk rfl rfl<|sk rfl rfl<|pf0 rfl rfl rfl<|as0 rfl rfl<|.fin ?_
  cases H.out; exact r2 i2 rfl (.cons (res_tmp rfl) .nil)
 have H:=H.ct c818
 refine fb rfl (gg rfl) rfl fa40_3<|ld 1 rfl (gg rfl) rfl sc9 rfl rfl<|fb rfl (gg rfl) rfl fa40_3<|ld 0 rfl (gg rfl) rfl sc9 rfl rfl<|bng rfl rfl rfl rfl run_seq<|pt0 rfl rfl rfl<|mv0 rfl rfl ?_
 cases c819:decide (a0.fThread = a1.fThread)
 ·
  have H:=H.cf c819
  refine sk rfl rfl<|sk rfl rfl<|sk rfl rfl<|sk rfl rfl<|sk rfl rfl<|pf0 rfl rfl rfl<|mv0 rfl rfl<|sk rfl rfl<|sk rfl rfl<|sk rfl rfl<|sk rfl rfl<|sk rfl rfl<|pf0 rfl rfl rfl<|as0 rfl rfl<|.fin ?_
  cases H.out; exact r2 i2 rfl (.cons (res_tmp rfl) .nil)
 have H:=H.ct c819
 refine fb rfl (gg rfl) rfl fa40_4<|ld 1 rfl (gg rfl) rfl sc9 rfl rfl<|fb rfl (gg rfl) rfl fa40_4<|ld 0 rfl (gg rfl) rfl sc9 rfl rfl<|bng rfl rfl rfl rfl run_seq<|pt0 rfl rfl rfl<|mv0 rfl rfl ?_
 cases c820:decide (a0.fUser = a1.fUser)
 ·
  have H:=H.cf c820
  refine sk rfl rfl<|sk rfl rfl<|sk rfl rfl<|sk rfl rfl<|sk rfl rfl<|pf0 rfl rfl rfl<|as0 rfl rfl<|.fin ?_
  cases H.out; exact r2 i2 rfl (.cons (res_tmp rfl) .nil)
 have H:=H.ct c820
 refine fb rfl (gg rfl) rfl fa40_5<|ld 1 rfl (gg rfl) rfl sc3 rfl rfl<|fb rfl (gg rfl) rfl fa40_5<|ld 0 rfl (gg rfl) rfl sc3 rfl rfl<|bng rfl rfl rfl rfl run_eq<|pt0 rfl rfl rfl<|as0 rfl rfl<|.fin ?_
 cases H.out; exact r2 i2 rfl (.cons (res_tmp rfl) .nil)
theorem r07_SameAll.c {k:Nat} {a0:List Event} {a1:List Event} {r:Bool} (h:r07_SameAll.f k a0 a1 = some r):Pt Tryz.prog 19 [sl Event.K a0,sl Event.K a1] (vB r):=by
 unfold r07_SameAll.f at h
 refine pb Tryz.func19 Tryz.ntmps19 h fun R0 F H=>?_
 refine WP.seq<|rg 1 0<|as0 rfl rfl<|.fin<|WP.seq<|WP.seq<|rg 5 0<|mv0 rfl rfl<|Dv.lenl rfl trivial rfl Tryz.underlying33<|mv0 rfl rfl<|Dv.lenl rfl trivial rfl Tryz.underlying33<|bn0 rfl rfl rfl run_ne<|.fin<|cd H rfl (fun _ H=>?_) (fun _ H=>?_)
 ·
  refine WP.seq<|rg 1 0<|as0 rfl rfl<|.fin ?_
  cases H.out; exact r0 i2 rfl (.cons (res_tmp rfl) .nil)
 refine WP.skip<|WP.seqr H id (fun p822:Int×Bool=>[(0,sl Event.K a0),(1,sl Event.K a1),(4,vB false),(5,vI p822.1),(11,vB ((a0.length:Int) != (a1.length:Int))),(15,vB p822.2)]) (fun p822:Int×Bool=>F) (fun p822 H=>?_) (fun H=>?_)
 ·
  refine WP.seq<|rg 1 0<|as0 rfl rfl<|.fin ?_
  cases H.out; exact r0 i2 rfl (.cons (res_tmp rfl) .nil)
 refine WP.seq<|rg 1 0<|as0 rfl rfl<|.fin<|WP.block<|wg (sg 0 [] 0) fun _ _=>?_
 refine lp (fun j_ (p831:Int)=>r07_SameAll.l0 k a0 a1 j_ p831) 0 H (fun p831=>[(0,sl Event.K a0),(1,sl Event.K a1),(4,vB false),(5,vI p831),(11,vB ((a0.length:Int) != (a1.length:Int)))]) (fun p831=>F) ?_
 rintro j_ x823 H
 rcases j_ with _ | j830
 ·
  exact (Gets.no H).elim
 replace H:Gets (r07_SameAll.l0 k a0 a1 (j830 + 1) x823) _:=H
 rw [r07_SameAll.l0] at H
 refine WP.seq<|WP.seq<|rg 4 0<|mv0 rfl rfl<|mv0 rfl rfl<|Dv.lenl rfl trivial rfl Tryz.underlying33<|bn0 rfl rfl rfl run_lt<|.fin<|cd H rfl (fun _ H=>?_) (fun _ H=>?_)
 rotate_left
 ·
  refine WP.exit ?_
  have H:=H.out
  exact jn (x823,decide (x823 < (a0.length:Int))) H
 refine WP.skip<|WP.seq<|WP.block<|WP.seq<|dg Tryz.checked.mixed 10 0<|mv0 rfl rfl<|mv0 rfl rfl<|gr H fun g825 H=>Dv.ixr rfl trivial rfl rfl Tryz.underlying33 Tryz.underlying40 c40 g825.1 g825.2<|ldsR rfl trivial rfl sg40 rfl<|mv0 rfl rfl<|mv0 rfl rfl<|gr H fun g826 H=>Dv.ixr rfl trivial rfl rfl Tryz.underlying33 Tryz.underlying40 c40 g826.1 g826.2<|ldsR rfl trivial rfl sg40 rfl<|el H fun t827 h828 H=>cl rfl cal30 rfl (r07_Same.c h828)<|as0 rfl rfl<|.fin<|WP.seq<|rg 2 0<|mv0 rfl rfl<|un0 rfl rfl (run_not _)<|.fin<|cd H rfl (fun _ H=>?_) (fun _ H=>?_)
 rotate_left
 ·
  exact WP.skip<|rg 3 0<|mv0 rfl rfl<|bn0 rfl rfl rfl run_add<|as0 rfl rfl<|.fin<|bk j830 (w64 (x823 + 1)) H
 refine WP.seq<|rg 1 0<|as0 rfl rfl<|.fin ?_
 have H:=H.outr
 cases H.out; exact r0 i2 rfl (.cons (res_tmp rfl) .nil)
theorem r07_Before.c {a0:Pos} {a1:Pos} {r:Bool} (h:r07_Before.f a0 a1 = some r):Pt Tryz.prog 31 [agg (Pos.enc a0),agg (Pos.enc a1)] (vB r):=by
 unfold r07_Before.f at h
 refine pb Tryz.func31 Tryz.ntmps31 h fun R0 F H=>?_
 refine WP.seq<|rg 3 3<|Dv.box rfl trivial rfl cA nofun fun b832=>Dv.box rfl trivial rfl cA nofun fun b833=>as0 rfl rfl<|.fin<|WP.seq<|rg 20 0<|fb rfl trivial rfl fa68_0<|ld 1 rfl trivial rfl sc3 rfl rfl<|fb rfl trivial rfl fa68_0<|ld 0 rfl trivial rfl sc3 rfl rfl<|bn0 rfl rfl rfl run_lt<|mv0 rfl rfl ?_
 cases c834:decide (a0.fDepth < a1.fDepth)
 rotate_left
 ·
  have H:=H.ct c834
  refine sk rfl rfl<|sk rfl rfl<|sk rfl rfl<|sk rfl rfl<|sk rfl rfl<|sk rfl rfl<|sku rfl rfl<|sku rfl rfl<|sku rfl rfl<|sku rfl rfl<|sku rfl rfl<|sk rfl rfl<|pt0 rfl rfl rfl<|as0 rfl rfl<|.fin ?_
  cases H.out; exact r2 i2 rfl (.cons (res_tmp rfl) .nil)
 have H:=H.cf c834
 refine fb rfl (gg rfl) rfl fa68_0<|ld 1 rfl (gg rfl) rfl sc3 rfl rfl<|fb rfl (gg rfl) rfl fa68_0<|ld 0 rfl (gg rfl) rfl sc3 rfl rfl<|bng rfl rfl rfl rfl run_eq<|mvg rfl rfl rfl ?_
 cases c835:(a0.fDepth == a1.fDepth)
 ·
  have H:=H.cf c835
  refine sk rfl rfl<|sk rfl rfl<|sk rfl rfl<|sk rfl rfl<|sk rfl rfl<|pfg rfl rfl rfl rfl<|pf0 rfl rfl rfl<|as0 rfl rfl<|.fin ?_
  cases H.out; exact r2 i2 rfl (.cons (res_tmp rfl) .nil)
 have H:=H.ct c835
 refine fb rfl (gg rfl) rfl fa68_1<|ld 1 rfl (gg rfl) rfl sc9 rfl rfl<|fb rfl (gg rfl) rfl fa68_1<|ld 0 rfl (gg rfl) rfl sc9 rfl rfl<|bng rfl rfl rfl rfl run_slt<|ptg rfl rfl rfl rfl<|pf0 rfl rfl rfl<|as0 rfl rfl<|.fin ?_
 cases H.out; exact r2 i2 rfl (.cons (res_tmp rfl) .nil)
end Go.Proofs.YtcchplmcefamhaaGreat
